/- What is proved: what the statement OccurrenceDisplacesSaid needs, part 6 of 6; the last part proves the statement. No condition. -/
import Derived.Test.YtopfjjdkffdjpaaZODs4
set_option maxHeartbeats 8000000
set_option maxRecDepth 100000
set_option linter.unusedVariables false
set_option linter.unusedSimpArgs false
section
namespace Go.Proofs.Ytopfjjdkffdjpaa.Q
open Go.RowKit Go.Proofs.YtopfjjdkffdjpaaW.PrintWords Go.Proofs.YtopfjjdkffdjpaaW.PrintLast Go.Proofs.Ytopfjjdkffdjpaa.Cal
section
variable {y : Int} (h0 : 1 ≤ y) (h1 : y ≤ 1000000000)
include h0 h1
theorem goldenq : computusref06_Golden.f y = some (y % 19 + 1) := by
 unfold computusref06_Golden.f
 rw [Int.tdiv_eq_ediv_of_nonneg (by omega), wq (y / 19) (by omega), wq (19 * (y / 19)) (by omega), wq (y - 19 * (y / 19)) (by omega), wq _ (by omega)]
 congr 2
 omega
theorem centuryq : computusref06_Century.f y = some (y / 100 + 1) := by
 unfold computusref06_Century.f
 rw [Int.tdiv_eq_ediv_of_nonneg (by omega), wq (y / 100) (by omega), wq _ (by omega)]
theorem lunarq : computusref06_Lunar.f y = some ((8 * (y / 100 + 1) + 5) / 25 - 5) := by
 unfold computusref06_Lunar.f
 rw [centuryq h0 h1]
 simp only [Option.bind_some]
 rw [wq (8 * (y / 100 + 1)) (by omega), wq (8 * (y / 100 + 1) + 5) (by omega), Int.tdiv_eq_ediv_of_nonneg (by omega), wq ((8 * (y / 100 + 1) + 5) / 25) (by omega), wq _ (by omega)]
theorem solarq : computusref06_Solar.f y = some (3 * (y / 100 + 1) / 4 - 12) := by
 unfold computusref06_Solar.f
 rw [centuryq h0 h1]
 simp only [Option.bind_some]
 rw [wq (3 * (y / 100 + 1)) (by omega), Int.tdiv_eq_ediv_of_nonneg (by omega), wq (3 * (y / 100 + 1) / 4) (by omega), wq _ (by omega)]
theorem label_some : ∃ v, computusref07_Label.f 2 y = some v := by
 have hof : ∃ v, computusref07_Of.f 2 y = some v := by
  unfold computusref07_Of.f
  rw [goldenq h0 h1, lunarq h0 h1, solarq h0 h1]
  simp only [Option.bind_some, if_true]
  rw [wq (11 * (y % 19 + 1)) (by omega), wq (11 * (y % 19 + 1) + 20) (by omega), wq (11 * (y % 19 + 1) + 20 + ((8 * (y / 100 + 1) + 5) / 25 - 5)) (by omega), wq _ (by omega), modq30 _ (by omega)]
  simp only [Option.bind_some]
  split <;> exact ⟨_, rfl⟩
 obtain ⟨v, hv⟩ := hof
 unfold computusref07_Label.f
 rw [hv, goldenq h0 h1]
 simp only [Option.bind_some]
 split
 ·split <;> exact ⟨_, rfl⟩
 ·exact ⟨_, rfl⟩
end
theorem position_all : ∀ d : Fin 50, (d.val < 24 → (computusref08_Position.f 800 3 ((d.val : Int) + 8)).isSome = true) ∧ (d.val < 20 → (computusref08_Position.f 800 4 ((d.val : Int) + 1)).isSome = true) := by decide +kernel
theorem position_ev (m d : Int) (h : (m = 3 ∧ 8 ≤ d ∧ d ≤ 31) ∨ (m = 4 ∧ 1 ≤ d ∧ d ≤ 20)) : ∃ p, Ev (fun k => computusref08_Position.f k m d) p := by
 have : (computusref08_Position.f 800 m d).isSome = true := by
  rcases h with ⟨rfl, h1, h2⟩ | ⟨rfl, h1, h2⟩
  ·have := (position_all ⟨(d - 8).toNat, by omega⟩).1 (by show (d - 8).toNat < 24; omega)
   have e : (((d - 8).toNat : Nat) : Int) + 8 = d := by omega
   rwa [e] at this
  ·have := (position_all ⟨(d - 1).toNat, by omega⟩).2 (by show (d - 1).toNat < 20; omega)
   have e : (((d - 1).toNat : Nat) : Int) + 1 = d := by omega
   rwa [e] at this
 obtain ⟨p, hp⟩ := Option.isSome_iff_exists.1 this
 exact ⟨p, Ev.of (by intro k; apply computusref08_Position.mono) hp⟩
theorem bears_ev (m d v : Int) (h : (m = 3 ∧ 8 ≤ d ∧ d ≤ 31) ∨ (m = 4 ∧ 1 ≤ d ∧ d ≤ 20)) : ∃ b, Ev (fun k => computusref08_Bears.f k m d v) b := by
 obtain ⟨p, hp⟩ := position_ev m d h
 have : ∃ b, (if p.2.2 = true then (if (Int.tmod p.1 2) = 0 then (if v = (wrap64 (30 - p.2.1)) then (some true) else (if v = 31 then (some (p.2.1 == 5)) else (some false))) else (if p.2.1 ≤ 4 then (if v = (wrap64 (30 - p.2.1)) then (some true) else (if v = 31 then (some (p.2.1 == 4)) else (some false))) else (if p.2.1 = 5 then (if v = 25 then (some true) else (some (v == 24))) else (some (v == (wrap64 (29 - p.2.1))))))) else (some false) : Option Bool) = some b := by
  repeat' split
  all_goals exact ⟨_, rfl⟩
 obtain ⟨b, hb⟩ := this
 refine ⟨b, ?_⟩
 unfold computusref08_Bears.f
 exact Ev.bind hp (Ev.def_ hb)
theorem newmoon_ev (y m d : Int) (h0 : 1 ≤ y) (h1 : y ≤ 1000000000) (h : (m = 3 ∧ 8 ≤ d ∧ d ≤ 31) ∨ (m = 4 ∧ 1 ≤ d ∧ d ≤ 20)) : ∃ b, Ev (fun k => computusref09_NewMoon.f k 2 y m d) b := by
 obtain ⟨v, hv⟩ := label_some h0 h1
 obtain ⟨b, hb⟩ := bears_ev m d v h
 refine ⟨b, ?_⟩
 unfold computusref09_NewMoon.f
 rw [hv]
 simp only [Option.bind_some]
 exact Ev.bind hb (Ev.now b)
def eqx (y : Int) : Int := num 2 ⟨y, 3, 21⟩
theorem eqx_le (y : Int) (h0 : 1583 ≤ y) (h1 : y ≤ 1000000000) : 577079 ≤ eqx y ∧ eqx y ≤ 370000000500 ∧ fst 2 y + 50 ≤ eqx y ∧ eqx y + 250 ≤ fst 2 (y + 1) := by
 have a := fst_pos h0
 have b := fst_bounds 2 (y := y) (by omega) (by omega)
 have c := fst_next 2 y
 have c13 := ylen_le 2 y
 have e : cum (lp 2 y) 3 = 31 + mlen (lp 2 y) 2 := by
  rw [show (3 : Nat) = 1 + 1 + 1 from rfl, cum_succ _ (by omega), cum_succ _ (by omega)]
  show cum (lp 2 y) 1 + mlen (lp 2 y) 1 + mlen (lp 2 y) 2 = _
  have e1 : cum (lp 2 y) 1 = 0 := rfl
  have e2 : mlen (lp 2 y) 1 = 31 := by unfold mlen; rfl
  omega
 have f := mlen_range (lp 2 y) (m := 2) (by omega)
 unfold eqx num
 show 577079 ≤ fst 2 y + cum (lp 2 y) 3 + 21 - 1 ∧ fst 2 y + cum (lp 2 y) 3 + 21 - 1 ≤ _ ∧ _ ≤ fst 2 y + cum (lp 2 y) 3 + 21 - 1 ∧ fst 2 y + cum (lp 2 y) 3 + 21 - 1 + 250 ≤ _
 omega
theorem in_year (y n : Int) (h0 : 1583 ≤ y) (h1 : y ≤ 1000000000) (ha : fst 2 y ≤ n) (hb : n < fst 2 (y + 1)) : inDays 2 n ∧ (date 2 n).y = y ∧ Ok 2 (date 2 n) ∧ num 2 (date 2 n) = n := by
 have hi : inDays 2 n := ⟨by have := fst_mono 2 (show (1 : Int) ≤ y by omega); omega, by have := fst_mono 2 (show y + 1 ≤ 1000000001 by omega); omega⟩
 have hd := date_ok hi
 refine ⟨hi, ?_, hd.1, hd.2⟩
 exact yr_of ha hb
theorem march (y n : Int) (h0 : 1583 ≤ y) (h1 : y ≤ 1000000000) (i : Int) (hi : 0 ≤ i ∧ i ≤ 41) (hn : n = eqx y - 13 + i) : ((date 2 n).m = 3 ∧ 8 ≤ (date 2 n).d ∧ (date 2 n).d ≤ 31) ∨ ((date 2 n).m = 4 ∧ 1 ≤ (date 2 n).d ∧ (date 2 n).d ≤ 20) := by
 have e3 : mlen (lp 2 y) 3 = 31 := by unfold mlen; rfl
 have e4 : mlen (lp 2 y) 4 = 30 := by unfold mlen; rfl
 by_cases h : i ≤ 23
 ·have hok : Ok 2 ⟨y, 3, 8 + i⟩ := ⟨by simp; omega, by simp; omega, by simp, by simp, by simp; omega, by simp [e3]; omega⟩
  have hnum : n = num 2 ⟨y, 3, 8 + i⟩ := by rw [hn]; unfold eqx num; simp only; omega
  rw [hnum, (date_num hok).1]
  exact .inl ⟨rfl, by simp; omega, by simp; omega⟩
 ·have hok : Ok 2 ⟨y, 4, i - 23⟩ := ⟨by simp; omega, by simp; omega, by simp, by simp, by simp; omega, by simp [e4]; omega⟩
  have hc : cum (lp 2 y) 4 = cum (lp 2 y) 3 + 31 := by rw [show (4 : Nat) = 3 + 1 from rfl, cum_succ _ (by omega)]; show _ + mlen (lp 2 y) 3 = _; rw [e3]
  have hnum : n = num 2 ⟨y, 4, i - 23⟩ := by
   rw [hn]; unfold eqx num
   show fst 2 y + cum (lp 2 y) 3 + 21 - 1 - 13 + i = fst 2 y + cum (lp 2 y) 4 + (i - 23) - 1
   omega
  rw [hnum, (date_num hok).1]
  exact .inr ⟨rfl, by simp; omega, by simp; omega⟩
theorem fullmoon_l0 (y : Int) (h0 : 1583 ≤ y) (h1 : y ≤ 1000000000) : ∀ (s : Nat) (i : Int), 0 ≤ i → i + s = 40 → ∃ n, eqx y ≤ n ∧ n ≤ eqx y + 40 ∧ Ev (fun k => computusref09_FullMoon.l0 k 2 (eqx y + i) i) ((date 2 n).y, (date 2 n).m, (date 2 n).d)
 | s, i, hi, hs => by
  obtain ⟨q1, q2, q3, q4⟩ := eqx_le y h0 h1
  have hin : inDays 2 (eqx y + i) := (in_year y _ h0 h1 (by omega) (by omega)).1
  cases s with
  | zero =>
   refine ⟨eqx y + i, by omega, by omega, ?_⟩
   refine Ev.step (f := fun k => (computusref05_FromDay.f k 2 (eqx y + i)).bind fun b => some (b.1, b.2.1, b.2.2.1)) (fun k => ?_) (Ev.bind (fromday05_ev _ hin) (Ev.now _))
   simp only [computusref09_FullMoon.l0]
   rw [if_neg (by omega)]
  | succ s =>
   obtain ⟨p1, p2, p3, p4⟩ := in_year y (eqx y + i - 13) h0 h1 (by omega) (by omega)
   obtain ⟨b, hb⟩ := newmoon_ev (date 2 (eqx y + i - 13)).y (date 2 (eqx y + i - 13)).m (date 2 (eqx y + i - 13)).d (by rw [p2]; omega) (by rw [p2]; omega) (march y _ h0 h1 i (by omega) (by omega))
   have key : ∀ (n : Int), (Ev (fun k => if b = true then ((computusref05_FromDay.f k 2 (eqx y + i)).bind fun b => some (b.1, b.2.1, b.2.2.1)) else computusref09_FullMoon.l0 k 2 (wrap64 (eqx y + i + 1)) (wrap64 (i + 1))) ((date 2 n).y, (date 2 n).m, (date 2 n).d)) → Ev (fun k => computusref09_FullMoon.l0 k 2 (eqx y + i) i) ((date 2 n).y, (date 2 n).m, (date 2 n).d) := fun n e => by
    refine Ev.step (f := fun k => (computusref05_FromDay.f k 2 (eqx y + i - 13)).bind fun bt => (computusref09_NewMoon.f k 2 bt.1 bt.2.1 bt.2.2.1).bind fun t => if t = true then ((computusref05_FromDay.f k 2 (eqx y + i)).bind fun b => some (b.1, b.2.1, b.2.2.1)) else computusref09_FullMoon.l0 k 2 (wrap64 (eqx y + i + 1)) (wrap64 (i + 1))) (fun k => ?_) ?_
    ·simp only [computusref09_FullMoon.l0]
     rw [if_pos (by omega), wq (eqx y + i - 13) (by omega)]
    ·refine Ev.bind (fromday05_ev _ p1) ?_
     exact Ev.bind hb e
   cases b with
   | true =>
    refine ⟨eqx y + i, by omega, by omega, key _ ?_⟩
    exact Ev.bind (fromday05_ev _ hin) (Ev.now _)
   | false =>
    obtain ⟨n, a1, a2, a3⟩ := fullmoon_l0 y h0 h1 s (i + 1) (by omega) (by omega)
    refine ⟨n, a1, a2, key _ ?_⟩
    rw [wq (eqx y + i + 1) (by omega), wq (i + 1) (by omega)]
    rw [← Int.add_assoc] at a3
    exact a3
theorem fullmoon_ev (y : Int) (h0 : 1583 ≤ y) (h1 : y ≤ 1000000000) : ∃ n, eqx y ≤ n ∧ n ≤ eqx y + 40 ∧ Ev (fun k => computusref09_FullMoon.f k 2 y) ((date 2 n).y, (date 2 n).m, (date 2 n).d) := by
 have e3 : mlen (lp 2 y) 3 = 31 := by unfold mlen; rfl
 have hok : Ok 2 ⟨y, 3, 21⟩ := ⟨by simp; omega, by simp; omega, by simp, by simp, by simp, by simp [e3]⟩
 obtain ⟨n, a1, a2, a3⟩ := fullmoon_l0 y h0 h1 40 0 (by omega) (by omega)
 refine ⟨n, a1, a2, ?_⟩
 unfold computusref09_FullMoon.f
 rw [Int.add_zero] at a3
 exact Ev.bind (today05_ev ⟨y, 3, 21⟩ hok) a3
theorem sunday_l0 : ∀ (s : Nat) (n : Int), 0 ≤ n ∧ n + s ≤ 800000000000 → (7 - n % 7) % 7 = s → Ev (fun k => computusref10_Day.l0 k n) (n + s)
 | 0, n, hn, hs => Ev.fin fun k => by
  simp only [computusref10_Day.l0]
  rw [ofq n (by omega)]
  simp only [Option.bind_some]
  rw [if_pos (by omega)]
  congr 1
  omega
 | s + 1, n, hn, hs => by
  have e := sunday_l0 s (n + 1) (by omega) (by omega)
  rw [show n + 1 + (s : Int) = n + ((s + 1 : Nat) : Int) by omega] at e
  refine Ev.step (fun k => ?_) e
  simp only [computusref10_Day.l0]
  rw [ofq n (by omega)]
  simp only [Option.bind_some]
  rw [if_neg (by omega), wq (n + 1) (by omega)]
theorem easter_ev (y : Int) (h0 : 1583 ≤ y) (h1 : y ≤ 1000000000) : ∃ d, 577000 ≤ d ∧ d ≤ 380000000000 ∧ Ev (fun k => computusref10_Day.f k 2 y) d := by
 obtain ⟨n, a1, a2, a3⟩ := fullmoon_ev y h0 h1
 obtain ⟨q1, q2, q3, q4⟩ := eqx_le y h0 h1
 obtain ⟨p1, p2, p3, p4⟩ := in_year y n h0 h1 (by omega) (by omega)
 obtain ⟨s, hs⟩ : ∃ s : Nat, (7 - (n + 1) % 7) % 7 = s := ⟨((7 - (n + 1) % 7) % 7).toNat, by omega⟩
 refine ⟨n + 1 + s, by omega, by omega, ?_⟩
 unfold computusref10_Day.f
 refine Ev.bind a3 ?_
 refine Ev.bind (today05_ev (date 2 n) p3) ?_
 rw [p4]
 simp only
 rw [wq (n + 1) (by omega)]
 exact sunday_l0 s (n + 1) (by omega) hs
theorem fails04_ev (n w : Int) (hw : 0 ≤ w ∧ w ≤ 6) (hn : 0 ≤ n ∧ n ≤ 1000000000000) : Ev (fun k => computusref04_fails.f k n w) 0 := by
 unfold computusref04_fails.f
 refine Ev.congr (fun k => if_neg (by omega)) ?_
 rw [decide_eq_false (by omega)]
 refine Ev.fin fun k => ?_
 simp only [computusref04_fails.j0]
 rw [if_neg (by simp)]
 first | rfl | (rw [if_neg (by omega), if_neg (by omega)]) | (simp; omega)
theorem after_l0 (w : Int) (hw : 0 ≤ w ∧ w ≤ 6) : ∀ (s : Nat) (n : Int), 0 ≤ n ∧ n + s ≤ 1000000000000 → (w - n % 7) % 7 = s → Ev (fun k => computusref04_OnOrAfter.l0 k n w) (n + s, 0)
 | 0, n, hn, hs => Ev.fin fun k => by
  simp only [computusref04_OnOrAfter.l0]
  rw [ofq n (by omega)]
  simp only [Option.bind_some]
  rw [if_pos (by omega)]
  congr 2
  omega
 | s + 1, n, hn, hs => by
  have e := after_l0 w hw s (n + 1) (by omega) (by omega)
  rw [show n + 1 + (s : Int) = n + ((s + 1 : Nat) : Int) by omega] at e
  refine Ev.step (fun k => ?_) e
  simp only [computusref04_OnOrAfter.l0]
  rw [ofq n (by omega)]
  simp only [Option.bind_some]
  rw [if_neg (by omega), wq (n + 1) (by omega)]
theorem before_l0 (w : Int) (hw : 0 ≤ w ∧ w ≤ 6) : ∀ (s : Nat) (n : Int), (s : Int) ≤ n ∧ n ≤ 1000000000000 → (n % 7 - w) % 7 = s → Ev (fun k => computusref04_OnOrBefore.l0 k n w) (n - s, 0)
 | 0, n, hn, hs => Ev.fin fun k => by
  simp only [computusref04_OnOrBefore.l0]
  rw [ofq n (by omega)]
  simp only [Option.bind_some]
  rw [if_pos (by omega)]
  congr 2
  omega
 | s + 1, n, hn, hs => by
  have e := before_l0 w hw s (n - 1) (by omega) (by omega)
  rw [show n - 1 - (s : Int) = n - ((s + 1 : Nat) : Int) by omega] at e
  refine Ev.step (fun k => ?_) e
  simp only [computusref04_OnOrBefore.l0]
  rw [ofq n (by omega)]
  simp only [Option.bind_some]
  rw [if_neg (by omega), wq (n - 1) (by omega)]
theorem nth_l0 (c : Int) : ∀ (s : Nat) (d i : Int), 0 ≤ d ∧ d + 7 * s ≤ 2000000000000 → 1 ≤ i → c ≤ 1000 → c - i = s → Ev (fun k => computusref04_Nth.l0 k c d 0 i) (d + 7 * s, 0)
 | 0, d, i, hd, hi, hc, hs => Ev.fin fun k => by
  simp only [computusref04_Nth.l0]
  rw [if_neg (by omega)]
  congr 2
  omega
 | s + 1, d, i, hd, hi, hc, hs => by
  have e := nth_l0 c s (d + 7) (i + 1) (by omega) (by omega) hc (by omega)
  rw [show d + 7 + 7 * (s : Int) = d + 7 * ((s + 1 : Nat) : Int) by omega] at e
  refine Ev.step (fun k => ?_) e
  simp only [computusref04_Nth.l0]
  rw [if_pos (by omega), if_pos trivial, wq (d + 7) (by omega), wq (i + 1) (by omega)]
theorem nth_l1 (c : Int) : ∀ (s : Nat) (d i : Int), 7 * (s : Int) ≤ d ∧ d ≤ 2000000000000 → i ≤ -1 → -1000 ≤ c → i - c = s → Ev (fun k => computusref04_Nth.l1 k c d 0 i) (d - 7 * s, 0)
 | 0, d, i, hd, hi, hc, hs => Ev.fin fun k => by
  simp only [computusref04_Nth.l1]
  rw [if_neg (by omega)]
  congr 2
  omega
 | s + 1, d, i, hd, hi, hc, hs => by
  have e := nth_l1 c s (d - 7) (i - 1) (by omega) (by omega) hc (by omega)
  rw [show d - 7 - 7 * (s : Int) = d - 7 * ((s + 1 : Nat) : Int) by omega] at e
  refine Ev.step (fun k => ?_) e
  simp only [computusref04_Nth.l1]
  rw [if_pos (by omega), if_pos trivial, wq (d - 7) (by omega), wq (i - 1) (by omega)]
theorem nth_ev (n w c : Int) (hw : 0 ≤ w ∧ w ≤ 6) (hn : 100 ≤ n ∧ n ≤ 400000000000) (hc : (1 ≤ c ∧ c ≤ 8) ∨ (-8 ≤ c ∧ c ≤ -1)) : ∃ d, 0 ≤ d ∧ d ≤ 500000000000 ∧ Ev (fun k => computusref04_Nth.f k n w c) (d, 0) := by
 have start : ∀ (r : Int × Int), Ev (fun k => computusref04_Nth.j0 k n w c false) r → Ev (fun k => computusref04_Nth.f k n w c) r := fun r e => by
  unfold computusref04_Nth.f
  refine Ev.congr (fun k => by rw [if_neg (by omega), if_neg (by omega), if_neg (by omega), if_neg (by omega), decide_eq_false (show ¬ c > 1000 by omega)]) e
 rcases hc with hc | hc
 ·obtain ⟨s, hs⟩ : ∃ s : Nat, (w - n % 7) % 7 = s := ⟨((w - n % 7) % 7).toNat, by omega⟩
  obtain ⟨q, hq⟩ : ∃ q : Nat, c - 1 = q := ⟨(c - 1).toNat, by omega⟩
  refine ⟨n + s + 7 * q, by omega, by omega, start _ ?_⟩
  refine Ev.step (f := fun k => (computusref04_OnOrAfter.f k n w).bind fun b => computusref04_Nth.l0 k c b.1 b.2 1) (fun k => ?_) ?_
  ·simp only [computusref04_Nth.j0]
   rw [if_neg (by simp), if_pos (by omega)]
  ·have e1 : Ev (fun k => computusref04_OnOrAfter.f k n w) (n + s, 0) := by
    unfold computusref04_OnOrAfter.f
    refine Ev.bind (fails04_ev n w hw (by omega)) ?_
    simp only [if_true]
    exact after_l0 w hw s n (by omega) hs
   exact Ev.bind e1 (nth_l0 c q (n + s) 1 (by omega) (by omega) (by omega) hq)
 ·obtain ⟨s, hs⟩ : ∃ s : Nat, (n % 7 - w) % 7 = s := ⟨((n % 7 - w) % 7).toNat, by omega⟩
  obtain ⟨q, hq⟩ : ∃ q : Nat, -1 - c = q := ⟨(-1 - c).toNat, by omega⟩
  refine ⟨n - s - 7 * q, by omega, by omega, start _ ?_⟩
  refine Ev.step (f := fun k => (computusref04_OnOrBefore.f k n w).bind fun b => computusref04_Nth.l1 k c b.1 b.2 (-1)) (fun k => ?_) ?_
  ·simp only [computusref04_Nth.j0]
   rw [if_neg (by simp), if_neg (by omega)]
  ·have e1 : Ev (fun k => computusref04_OnOrBefore.f k n w) (n - s, 0) := by
    unfold computusref04_OnOrBefore.f
    refine Ev.bind (fails04_ev n w hw (by omega)) ?_
    simp only [if_true]
    exact before_l0 w hw s n (by omega) hs
   exact Ev.bind e1 (nth_l1 c q (n - s) (-1) (by omega) (by omega) (by omega) hq)
def anchorOk (a : S64) : Prop :=
 (a.f0 = 2 ∧ -80 ≤ a.f3 ∧ a.f3 ≤ 250) ∨ ((a.f0 = 1 ∨ a.f0 = 3) ∧ 1 ≤ a.f2 ∧ a.f2 ≤ mlen false a.f1 ∧ (a.f0 = 3 → (0 ≤ a.f4 ∧ a.f4 ≤ 6) ∧ ((1 ≤ a.f5 ∧ a.f5 ≤ 8) ∨ (-8 ≤ a.f5 ∧ a.f5 ≤ -1))))
theorem mlen_common (b : Bool) (m : Int) : mlen false m ≤ mlen b m := by
 unfold mlen
 split
 ·cases b <;> simp
 ·exact Int.le_refl _
theorem day16_ev (a : S64) (h : anchorOk a) (y : Int) (h0 : 1583 ≤ y) (h1 : y ≤ 1000000000) : ∃ d, 0 ≤ d ∧ d ≤ 1000000000000 ∧ Ev (fun k => computusref16_Day.f k a.f0 a.f1 a.f2 a.f3 a.f4 a.f5 y) d := by
 unfold computusref16_Day.f
 rcases h with ⟨ha, h2, h3⟩ | ⟨ha, h2, h3, h4⟩
 ·obtain ⟨d, d0, d1, d2⟩ := easter_ev y h0 h1
  refine ⟨d + a.f3, by omega, by omega, ?_⟩
  refine Ev.congr (fun k => if_pos ha) ?_
  refine Ev.bind d2 ?_
  rw [wq _ (by omega)]
  exact Ev.now _
 ·have hm : 1 ≤ a.f1 ∧ a.f1 ≤ 12 := by
   by_cases hm : 1 ≤ a.f1 ∧ a.f1 ≤ 12
   ·exact hm
   ·rw [mlen_zero false hm] at h3; omega
  have hl := mlen_common (lp 2 y) a.f1
  have hok : Ok 2 ⟨y, a.f1, a.f2⟩ := ⟨by simp; omega, by simp; omega, hm.1, hm.2, h2, by simp; omega⟩
  have hn := num_year hok
  have b1 := fst_pos h0
  have b2 := fst_bounds 2 (y := y + 1) (by omega) (by omega)
  simp only at hn
  have start : ∀ (d : Int), Ev (fun k => if a.f0 = 3 then (computusref04_Nth.f k (num 2 ⟨y, a.f1, a.f2⟩) a.f4 a.f5).bind fun b => some b.1 else some (num 2 ⟨y, a.f1, a.f2⟩)) d → Ev (fun k => if a.f0 = 2 then ((computusref10_Day.f k 2 y).bind fun t397 => (some (wrap64 (t397 + a.f3)))) else ((computusref03_ToDay.f k y a.f1 a.f2).bind fun bt398 => (if a.f0 = 3 then ((computusref04_Nth.f k bt398.1 a.f4 a.f5).bind fun bt400 => (some bt400.1)) else (some bt398.1)))) d := fun d e =>
   Ev.congr (fun k => if_neg (by omega)) (Ev.bind (today_ev ⟨y, a.f1, a.f2⟩ hok) e)
  by_cases h3' : a.f0 = 3
  ·obtain ⟨hw, hc⟩ := h4 h3'
   obtain ⟨d, d0, d1, d2⟩ := nth_ev (num 2 ⟨y, a.f1, a.f2⟩) a.f4 a.f5 hw (by omega) hc
   exact ⟨d, d0, by omega, start d (Ev.congr (fun k => if_pos h3') (Ev.bind d2 (Ev.now _)))⟩
  ·exact ⟨num 2 ⟨y, a.f1, a.f2⟩, by omega, by omega, start _ (Ev.congr (fun k => if_neg h3') (Ev.now _))⟩
end Go.Proofs.Ytopfjjdkffdjpaa.Q
end
section
namespace Go.Proofs.Ytopfjjdkffdjpaa.Q
open Go.RowKit Go.Proofs.YtopfjjdkffdjpaaW.PrintWords Go.Proofs.YtopfjjdkffdjpaaW.PrintLast Go.Proofs.Ytopfjjdkffdjpaa.Cal
def ExB (g : Nat → Option Bool) (P : Prop) : Prop := ∃ b, Ev g b ∧ (b = true → P)
theorem ExB.step {g f : Nat → Option Bool} {P : Prop} (h : ∀ k, g (k + 1) = f k) (e : ExB f P) : ExB g P := by
 obtain ⟨b, e, p⟩ := e
 exact ⟨b, Ev.step h e, p⟩
theorem ExB.congr {g f : Nat → Option Bool} {P : Prop} (h : ∀ k, g k = f k) (e : ExB f P) : ExB g P := by
 obtain ⟨b, e, p⟩ := e
 exact ⟨b, Ev.congr h e, p⟩
theorem ExB.no {P : Prop} : ExB (fun _ => some false) P := ⟨false, Ev.now _, fun h => by cases h⟩
theorem ExB.dec {P Q : Prop} [Decidable Q] (h : Q → P) : ExB (fun _ => some (decide Q)) P := ⟨_, Ev.now _, fun e => h (of_decide_eq_true e)⟩
theorem ExB.bind {g : Nat → Option Bool} {f : Nat → Bool → Option Bool} {P Q : Prop} (h : ExB g Q) (h1 : Q → ExB (fun k => f k true) P) (h2 : ExB (fun k => f k false) P) : ExB (fun k => (g k).bind (f k)) P := by
 obtain ⟨b, e, p⟩ := h
 cases b with
 | true =>
  obtain ⟨c, e2, p2⟩ := h1 (p rfl)
  exact ⟨c, Ev.bind e e2, p2⟩
 | false =>
  obtain ⟨c, e2, p2⟩ := h2
  exact ⟨c, Ev.bind e e2, p2⟩
theorem ExB.ite {c : Prop} [Decidable c] {f g : Nat → Option Bool} {P : Prop} (h1 : c → ExB f P) (h2 : ¬ c → ExB g P) : ExB (fun k => if c then f k else g k) P := by
 by_cases h : c
 ·exact ExB.congr (fun k => if_pos h) (h1 h)
 ·exact ExB.congr (fun k => if_neg h) (h2 h)
theorem ExB.imp {g : Nat → Option Bool} {P Q : Prop} (h : ExB g P) (hq : P → Q) : ExB g Q := by
 obtain ⟨b, e, p⟩ := h
 exact ⟨b, e, fun h => hq (p h)⟩
theorem exists_ev (m d : Int) : ExB (fun k => computusref08_Exists.f k m d) (1 ≤ d ∧ d ≤ mlen false m) := by
 unfold computusref08_Exists.f
 refine ExB.ite (fun h => ?_) (fun _ => ExB.no)
 exact ⟨_, Ev.bind (len_ev false m) (Ev.now _), fun e => ⟨h, of_decide_eq_true e⟩⟩
theorem ofyear_ev (m d : Int) (h : 1 ≤ d ∧ d ≤ mlen false m) : ∃ n, Ev (fun k => computusref16_ofYear.f k m d) n := by
 have hm : 1 ≤ m ∧ m ≤ 12 := by
  by_cases hm : 1 ≤ m ∧ m ≤ 12
  ·exact hm
  ·have := mlen_zero false hm; omega
 have hl := mlen_common (lp 2 2001) m
 have hok : Ok 2 ⟨2001, m, d⟩ := ⟨by simp, by simp, hm.1, hm.2, h.1, by simp; omega⟩
 refine ⟨wrap64 (wrap64 (num 2 ⟨2001, m, d⟩ - fst 2 2001) + 1), ?_⟩
 unfold computusref16_ofYear.f
 rw [firstq 2001 (by omega)]
 exact Ev.bind (today_ev ⟨2001, m, d⟩ hok) (Ev.now _)
theorem check16_ev (a : S64) : ExB (fun k => computusref16_Check.f k a.f0 a.f1 a.f2 a.f3 a.f4 a.f5) (anchorOk a) := by
 unfold computusref16_Check.f
 refine ExB.ite (fun h2 => ?_) (fun h2 => ?_)
 ·refine ExB.ite (fun _ => ?_) (fun _ => ExB.no)
  refine ExB.ite (fun _ => ?_) (fun _ => ExB.no)
  refine ExB.ite (fun _ => ?_) (fun _ => ExB.no)
  refine ExB.ite (fun _ => ?_) (fun _ => ExB.no)
  refine ExB.ite (fun h3 => ?_) (fun _ => ExB.no)
  exact ExB.dec (fun h4 => .inl ⟨h2, h3, h4⟩)
 ·have no : ∀ x, ExB (fun k => computusref16_Check.j1 k x true a.f0 a.f1 a.f2 a.f3 a.f4 a.f5) (anchorOk a) := fun x => ExB.step (fun k => by simp only [computusref16_Check.j1]; rw [if_pos trivial]) ExB.no
  refine ExB.bind (exists_ev a.f1 a.f2) (fun he => ?_) ?_
  ·refine ExB.congr (fun k => if_pos rfl) ?_
   refine ExB.step (fun k => by simp only [computusref16_Check.j0]; rfl) ?_
   refine ExB.ite (fun _ => ExB.no) (fun _ => ?_)
   refine ExB.ite (fun h1 => ?_) (fun h1 => ?_)
   ·refine ExB.ite (fun _ => ?_) (fun _ => ExB.no)
    exact ⟨_, Ev.now _, fun _ => .inr ⟨.inl h1, he.1, he.2, fun h => by omega⟩⟩
   ·obtain ⟨n, hn⟩ := ofyear_ev a.f1 a.f2 he
    have key : ExB (fun k => if a.f0 = 3 then (if a.f4 < 0 then computusref16_Check.j1 k n true a.f0 a.f1 a.f2 a.f3 a.f4 a.f5 else computusref16_Check.j1 k n (decide (a.f4 > 6)) a.f0 a.f1 a.f2 a.f3 a.f4 a.f5) else computusref16_Check.j1 k n true a.f0 a.f1 a.f2 a.f3 a.f4 a.f5) (anchorOk a) := by
     refine ExB.ite (fun h3 => ?_) (fun _ => no n)
     refine ExB.ite (fun _ => no n) (fun h4 => ?_)
     refine ExB.step (fun k => by simp only [computusref16_Check.j1]; rfl) ?_
     refine ExB.ite (fun _ => ExB.no) (fun h5 => ?_)
     have hw : 0 ≤ a.f4 ∧ a.f4 ≤ 6 := by have : ¬ a.f4 > 6 := fun h => h5 (decide_eq_true h); omega
     have fin : ∀ q : Bool, ((1 ≤ a.f5 ∧ a.f5 ≤ 8) ∨ (-8 ≤ a.f5 ∧ a.f5 ≤ -1)) → ExB (fun _ => some q) (anchorOk a) := fun q hc => ⟨q, Ev.now _, fun _ => .inr ⟨.inr h3, he.1, he.2, fun _ => ⟨hw, hc⟩⟩⟩
     refine ExB.ite (fun h6 => ?_) (fun h6 => ?_)
     ·refine ExB.ite (fun h7 => fin _ (by omega)) (fun h7 => ?_)
      refine ExB.ite (fun h8 => ?_) (fun _ => ExB.no)
      exact ExB.ite (fun h9 => fin _ (by omega)) (fun _ => ExB.no)
     ·refine ExB.ite (fun h8 => ?_) (fun _ => ExB.no)
      exact ExB.ite (fun h9 => fin _ (by omega)) (fun _ => ExB.no)
    obtain ⟨b, e, p⟩ := key
    exact ⟨b, Ev.bind hn e, p⟩
  ·refine ExB.congr (fun k => if_neg (by simp)) ?_
   exact ExB.step (fun k => by simp only [computusref16_Check.j0]; rw [if_pos trivial]) ExB.no
theorem ident_l0 (a : ByteArray) (ha : a.size ≤ 1000000) : ∀ (s i : Nat), i + s = a.size → ExB (fun k => computusref17_Identifier.l0 k a (i : Int)) True
 | 0, i, h => ⟨true, Ev.fin fun k => by simp only [computusref17_Identifier.l0]; rw [if_neg (by omega)], fun _ => trivial⟩
 | s + 1, i, h => by
  have ih := ident_l0 a ha s (i + 1) (by omega)
  have hw : wrap64 ((i : Int) + 1) = ((i + 1 : Nat) : Int) := by rw [wq _ (by omega)]; omega
  have j3 : ∀ (c : Int) (b : Bool), ExB (fun k => computusref17_Identifier.j3 k a (i : Int) c b) True := fun c b => by
   refine ExB.step (fun k => by simp only [computusref17_Identifier.j3]; rw [hw]) ?_
   refine ExB.ite (fun _ => ih) (fun _ => ?_)
   refine ExB.ite (fun _ => ?_) (fun _ => ExB.no)
   refine ExB.ite (fun _ => ExB.no) (fun h0 => ?_)
   refine ExB.ite (fun _ => ExB.no) (fun _ => ?_)
   refine ExB.congr (fun k => by rw [if_pos (by rw [wq _ (by omega)]; omega), if_pos (by rw [wq _ (by omega)]; omega)]) ?_
   exact ExB.ite (fun _ => ExB.no) (fun _ => ih)
  have j2 : ∀ (c : Int) (b : Bool), ExB (fun k => computusref17_Identifier.j2 k a (i : Int) c b) True := fun c b => by
   refine ExB.step (fun k => by simp only [computusref17_Identifier.j2]; rw [hw]) ?_
   refine ExB.ite (fun _ => ih) (fun _ => ?_)
   refine ExB.ite (fun _ => ?_) (fun _ => j3 _ _)
   exact ExB.ite (fun _ => j3 _ _) (fun _ => j3 _ _)
  refine ExB.step (fun k => by simp only [computusref17_Identifier.l0]; rw [if_pos (by omega), if_pos (by omega)]) ?_
  exact ExB.ite (fun _ => j2 _ _) (fun _ => j2 _ _)
theorem ident_ev (a : ByteArray) : ExB (fun k => computusref17_Identifier.f k a) True := by
 have no : ExB (fun k => computusref17_Identifier.j0 k a true) True := ExB.step (fun k => by simp only [computusref17_Identifier.j0]; rw [if_pos trivial]) ExB.no
 unfold computusref17_Identifier.f
 refine ExB.ite (fun _ => no) (fun h1 => ?_)
 refine ExB.step (fun k => by simp only [computusref17_Identifier.j0]; rfl) ?_
 refine ExB.ite (fun _ => ExB.no) (fun h => ?_)
 have : ¬ (a.size : Int) > 40 := fun h2 => h (decide_eq_true h2)
 exact ident_l0 a (by omega) a.size 0 (by omega)
def seasonOk (s : S66) : Prop := anchorOk s.f3
def feastOk (f : S68) : Prop := (1 ≤ f.f1 ∧ f.f1 ≤ 9) ∧ (1 ≤ f.f2 ∧ f.f2 ≤ 3) ∧ anchorOk f.f3
theorem season_ev (s : S66) : ExB (fun k => computusref17_Season.f k s.f0 s.f1 s.f2 s.f3.f0 s.f3.f1 s.f3.f2 s.f3.f3 s.f3.f4 s.f3.f5) (seasonOk s) := by
 unfold computusref17_Season.f
 refine ExB.bind (ident_ev s.f0) (fun _ => ?_) (ExB.congr (fun k => if_neg (by simp)) ExB.no)
 refine ExB.congr (fun k => if_pos rfl) ?_
 refine ExB.ite (fun _ => ?_) (fun _ => ExB.no)
 refine ExB.ite (fun _ => ?_) (fun _ => ExB.no)
 refine ExB.ite (fun _ => ?_) (fun _ => ExB.no)
 refine ExB.ite (fun _ => ?_) (fun _ => ExB.no)
 exact ExB.bind (check16_ev s.f3) (fun h => ⟨true, Ev.now _, fun _ => h⟩) ExB.no
theorem feast_ev (s : S68) : ExB (fun k => computusref17_Feast.f k s.f0 s.f1 s.f2 s.f3.f0 s.f3.f1 s.f3.f2 s.f3.f3 s.f3.f4 s.f3.f5) (feastOk s) := by
 unfold computusref17_Feast.f
 refine ExB.bind (ident_ev s.f0) (fun _ => ?_) (ExB.congr (fun k => if_neg (by simp)) ExB.no)
 refine ExB.congr (fun k => if_pos rfl) ?_
 refine ExB.ite (fun h1 => ?_) (fun _ => ExB.no)
 refine ExB.ite (fun h2 => ?_) (fun _ => ExB.no)
 refine ExB.ite (fun h3 => ?_) (fun _ => ExB.no)
 refine ExB.ite (fun h4 => ?_) (fun _ => ExB.no)
 exact ExB.bind (check16_ev s.f3) (fun h => ⟨true, Ev.now _, fun _ => ⟨⟨h1, h2⟩, ⟨h3, h4⟩, h⟩⟩) ExB.no
theorem ids_l3 (x : List ByteArray) (hx : x.length ≤ 100000) (i : Nat) (hi : i < x.length) (next : ExB (fun k => computusref17_Check.l2 k x ((i + 1 : Nat) : Int)) True) : ∀ (s j : Nat), j + s = i → ExB (fun k => computusref17_Check.l3 k x (i : Int) (j : Int)) True
 | 0, j, h => ExB.step (fun k => by simp only [computusref17_Check.l3]; rw [if_neg (by omega), wq _ (by omega), show (i : Int) + 1 = ((i + 1 : Nat) : Int) by omega]) next
 | s + 1, j, h => by
  refine ExB.step (fun k => by simp only [computusref17_Check.l3]; rw [if_pos (by omega), if_pos (by omega), if_pos (by omega), if_pos (by omega), if_pos (by omega), wq _ (by omega), show (j : Int) + 1 = ((j + 1 : Nat) : Int) by omega]) ?_
  exact ExB.ite (fun _ => ExB.no) (fun _ => ids_l3 x hx i hi next s (j + 1) (by omega))
theorem ids_l2 (x : List ByteArray) (hx : x.length ≤ 100000) : ∀ (s i : Nat), i + s = x.length → ExB (fun k => computusref17_Check.l2 k x (i : Int)) True
 | 0, i, h => ⟨true, Ev.fin fun k => by simp only [computusref17_Check.l2]; rw [if_neg (by omega)], fun _ => trivial⟩
 | s + 1, i, h => by
  refine ExB.step (fun k => by simp only [computusref17_Check.l2]; rw [if_pos (by omega)]) ?_
  exact ids_l3 x hx i (by omega) (ids_l2 x hx s (i + 1) (by omega)) i 0 (by omega)
theorem rdSn (l : List S66) (i : Nat) (h : i < l.length) : rd_T66 l (i : Int) = l[i] := by simp [rd_T66, List.getD, h]
theorem rdFs (l : List S68) (i : Nat) (h : i < l.length) : rd_T68 l (i : Int) = l[i] := by simp [rd_T68, List.getD, h]
theorem check_l1 (a0 : Int) (l1 : List S66) (l2 : List S68) (hl : l2.length ≤ 1000) : ∀ (s i : Nat) (x : List ByteArray), i + s = l2.length → x.length ≤ 10000 + i → ExB (fun k => computusref17_Check.l1 k x (i : Int) a0 l1 l2) (∀ f ∈ l2.drop i, feastOk f)
 | 0, i, x, h, hx => by
  refine (ExB.step (fun k => by simp only [computusref17_Check.l1]; rw [if_neg (by omega)]; rfl) (ids_l2 x (by omega) x.length 0 (by omega))).imp fun _ f hf => ?_
  rw [List.drop_of_length_le (by omega)] at hf
  cases hf
 | s + 1, i, x, h, hx => by
  have hi : i < l2.length := by omega
  refine ExB.step (fun k => by simp only [computusref17_Check.l1]; rw [if_pos (by omega), if_pos (by omega), rdFs l2 i hi]) ?_
  refine ExB.bind (feast_ev l2[i]) (fun hf => ?_) (ExB.congr (fun k => if_neg (by simp)) ExB.no)
  refine ExB.congr (fun k => by rw [if_pos rfl, if_pos (by omega), wq _ (by omega), show (i : Int) + 1 = ((i + 1 : Nat) : Int) by omega]) ?_
  refine (check_l1 a0 l1 l2 hl s (i + 1) (x ++ [l2[i].f0]) (by omega) (by simp; omega)).imp fun hr f hm => ?_
  rw [List.drop_eq_getElem_cons hi] at hm
  rcases List.mem_cons.1 hm with rfl | hm
  ·exact hf
  ·exact hr f hm
theorem check_l0 (a0 : Int) (l1 : List S66) (l2 : List S68) (h1 : l1.length ≤ 1000) (hl : l2.length ≤ 1000) : ∀ (s i : Nat) (x : List ByteArray), i + s = l1.length → x.length ≤ i → ExB (fun k => computusref17_Check.l0 k x (i : Int) a0 l1 l2) ((∀ f ∈ l1.drop i, seasonOk f) ∧ ∀ f ∈ l2, feastOk f)
 | 0, i, x, h, hx => by
  refine (ExB.step (fun k => by simp only [computusref17_Check.l0]; rw [if_neg (by omega)]; rfl) (check_l1 a0 l1 l2 hl l2.length 0 x (by omega) (by omega))).imp fun hr => ⟨fun f hf => ?_, by simpa using hr⟩
  rw [List.drop_of_length_le (by omega)] at hf
  cases hf
 | s + 1, i, x, h, hx => by
  have hi : i < l1.length := by omega
  refine ExB.step (fun k => by simp only [computusref17_Check.l0]; rw [if_pos (by omega), if_pos (by omega), rdSn l1 i hi]) ?_
  refine ExB.bind (season_ev l1[i]) (fun hf => ?_) (ExB.congr (fun k => if_neg (by simp)) ExB.no)
  refine ExB.congr (fun k => by rw [if_pos rfl, if_pos (by omega), wq _ (by omega), show (i : Int) + 1 = ((i + 1 : Nat) : Int) by omega]) ?_
  refine (check_l0 a0 l1 l2 h1 hl s (i + 1) (x ++ [l1[i].f0]) (by omega) (by simp; omega)).imp fun hr => ⟨fun f hm => ?_, hr.2⟩
  rw [List.drop_eq_getElem_cons hi] at hm
  rcases List.mem_cons.1 hm with rfl | hm
  ·exact hf
  ·exact hr.1 f hm
def catOk (l1 : List S66) (l2 : List S68) : Prop := 0 < l1.length ∧ (∀ s ∈ l1, seasonOk s) ∧ ∀ f ∈ l2, feastOk f
theorem check_ev (a0 : Int) (l1 : List S66) (l2 : List S68) (h1 : l1.length ≤ 1000) (hl : l2.length ≤ 1000) : ExB (fun k => computusref17_Check.f k a0 l1 l2) (catOk l1 l2) := by
 have no : ExB (fun k => computusref17_Check.j0 k true a0 l1 l2) (catOk l1 l2) := ExB.step (fun k => by simp only [computusref17_Check.j0]; rw [if_pos trivial]) ExB.no
 unfold computusref17_Check.f
 refine ExB.ite (fun _ => no) (fun _ => ?_)
 refine ExB.ite (fun _ => no) (fun _ => ?_)
 refine ExB.ite (fun _ => no) (fun h3 => ?_)
 refine ExB.ite (fun _ => no) (fun _ => ?_)
 refine ExB.step (fun k => by simp only [computusref17_Check.j0]; rfl) ?_
 refine ExB.ite (fun _ => ExB.no) (fun _ => ?_)
 refine (check_l0 a0 l1 l2 h1 hl l1.length 0 [] (by omega) (by simp)).imp fun h => ⟨by omega, by simpa using h.1, h.2⟩
theorem right_ev (a0 : Int) (l1 : List S66) (l2 : List S68) : ExB (fun k => computusref17_Right.f k a0 l1 l2) (Ev (fun k => computusref17_Check.f k a0 l1 l2) true ∧ catOk l1 l2 ∧ l1.length ≤ 8 ∧ l2.length ≤ 30) := by
 unfold computusref17_Right.f computusref17_Few.f
 by_cases h1 : (l1.length : Int) ≤ 8
 ·rw [if_pos h1]
  simp only [Option.bind_some]
  by_cases h2 : (l2.length : Int) ≤ 30
  ·rw [decide_eq_true h2]
   refine ExB.congr (fun k => if_pos rfl) ?_
   obtain ⟨b, e, p⟩ := check_ev a0 l1 l2 (by omega) (by omega)
   exact ⟨b, Ev.bind e (Ev.now _), fun hb => ⟨by rw [hb] at e; exact e, p hb, by omega, by omega⟩⟩
  ·rw [decide_eq_false h2]
   exact ExB.congr (fun k => if_neg (by simp)) ExB.no
 ·rw [if_neg h1]
  simp only [Option.bind_some]
  exact ExB.congr (fun k => if_neg (by simp)) ExB.no
def dayOk (y d : Int) : Prop := 1583 ≤ y ∧ y ≤ 1000000000 ∧ fst 2 y ≤ d ∧ d < fst 2 (y + 1)
theorem fails18_ev (a0 : Int) (l1 : List S66) (l2 : List S68) (h : Ev (fun k => computusref17_Check.f k a0 l1 l2) true) (y d : Int) : ∃ r : Int, Ev (fun k => computusref18_Fails.f k a0 l1 l2 y d) r ∧ (r = 0 → dayOk y d) := by
 have key : ∃ r : Int, Ev (fun _ => (computusref06_InGregorian.f y).bind fun t269 => (if t269 = true then ((computusref03_First.f y).bind fun t270 => (if d < t270 then (some 2) else ((computusref03_First.f (wrap64 (y + 1))).bind fun t271 => (if d ≥ t271 then (some 2) else (some 0))))) else (some 1))) r ∧ (r = 0 → dayOk y d) := by
  unfold computusref06_InGregorian.f
  by_cases h1 : y ≥ 1583
  ·rw [if_pos h1]
   simp only [Option.bind_some]
   by_cases h2 : y ≤ 1000000000
   ·rw [decide_eq_true h2, if_pos rfl, firstq y (by omega)]
    simp only [Option.bind_some]
    by_cases h3 : d < fst 2 y
    ·rw [if_pos h3]
     exact ⟨2, Ev.now _, fun h => by omega⟩
    ·rw [if_neg h3, wq (y + 1) (by omega), firstq (y + 1) (by omega)]
     simp only [Option.bind_some]
     by_cases h4 : d ≥ fst 2 (y + 1)
     ·rw [if_pos h4]
      exact ⟨2, Ev.now _, fun h => by omega⟩
     ·rw [if_neg h4]
      exact ⟨0, Ev.now _, fun _ => ⟨h1, h2, by omega, by omega⟩⟩
   ·rw [decide_eq_false h2, if_neg (by simp)]
    exact ⟨1, Ev.now _, fun h => by omega⟩
  ·rw [if_neg h1]
   simp only [Option.bind_some]
   rw [if_neg (by simp)]
   exact ⟨1, Ev.now _, fun h => by omega⟩
 obtain ⟨r, e, p⟩ := key
 refine ⟨r, ?_, p⟩
 unfold computusref18_Fails.f
 refine Ev.bind h ?_
 exact Ev.congr (fun k => if_pos rfl) e
end Go.Proofs.Ytopfjjdkffdjpaa.Q
end
section
namespace Go.Proofs.Ytopfjjdkffdjpaa.Q
open Go.RowKit Go.Proofs.YtopfjjdkffdjpaaW.PrintWords Go.Proofs.YtopfjjdkffdjpaaW.PrintLast Go.Proofs.Ytopfjjdkffdjpaa.Cal
abbrev Sn := S66
abbrev Fs := S68
abbrev Rc := S44
theorem rdI (l : List Int) (i : Nat) (h : i < l.length) : rd l (i : Int) = l[i] := by simp [rd, List.getD, h]
theorem starts_l0 (a0 : Int) (l1 : List Sn) (l2 : List Fs) (hl : l1.length ≤ 1000) (ho : ∀ s ∈ l1, seasonOk s) (y : Int) (h0 : 1583 ≤ y) (h1 : y ≤ 1000000000) : ∀ (s i : Nat) (out : List Int), i + s = l1.length → out.length = i → (∀ d ∈ out, 0 ≤ d) → ∃ ds : List Int, ds.length = l1.length ∧ (∀ d ∈ ds, 0 ≤ d) ∧ Ev (fun k => computusref18_Starts.l0 k y out (i : Int) a0 l1 l2) ds
 | 0, i, out, h, hx, hd => ⟨out, by omega, hd, Ev.fin fun k => by simp only [computusref18_Starts.l0]; rw [if_neg (by omega)]⟩
 | s + 1, i, out, h, hx, hd => by
  have hi : i < l1.length := by omega
  obtain ⟨d, d0, d1, d2⟩ := day16_ev l1[i].f3 (ho _ (List.getElem_mem hi)) y h0 h1
  obtain ⟨ds, e1, e2, e3⟩ := starts_l0 a0 l1 l2 hl ho y h0 h1 s (i + 1) (out ++ [d]) (by omega) (by simp; omega) (fun x hm => by
   rcases List.mem_append.1 hm with hm | hm
   ·exact hd x hm
   ·simp at hm; omega)
  refine ⟨ds, e1, e2, ?_⟩
  refine Ev.step (f := fun k => (computusref16_Day.f k l1[i].f3.f0 l1[i].f3.f1 l1[i].f3.f2 l1[i].f3.f3 l1[i].f3.f4 l1[i].f3.f5 y).bind fun t => if out.length < 17592186044416 then computusref18_Starts.l0 k y (out ++ [t]) (wrap64 ((i : Int) + 1)) a0 l1 l2 else none) (fun k => ?_) (Ev.bind d2 ?_)
  ·simp only [computusref18_Starts.l0]
   rw [if_pos (by omega), if_pos (by omega), rdSn l1 i hi]
  ·refine Ev.congr (fun k => if_pos (by omega)) ?_
   rw [wq _ (by omega), show (i : Int) + 1 = ((i + 1 : Nat) : Int) by omega]
   exact e3
theorem days_l0 (a0 : Int) (l1 : List Sn) (l2 : List Fs) (hl : l2.length ≤ 1000) (ho : ∀ s ∈ l2, feastOk s) (y : Int) (h0 : 1583 ≤ y) (h1 : y ≤ 1000000000) : ∀ (s i : Nat) (out : List Int), i + s = l2.length → out.length = i → ∃ ds : List Int, ds.length = l2.length ∧ Ev (fun k => computusref19_Days.l0 k y out (i : Int) a0 l1 l2) ds
 | 0, i, out, h, hx => ⟨out, by omega, Ev.fin fun k => by simp only [computusref19_Days.l0]; rw [if_neg (by omega)]⟩
 | s + 1, i, out, h, hx => by
  have hi : i < l2.length := by omega
  obtain ⟨d, d0, d1, d2⟩ := day16_ev l2[i].f3 (ho _ (List.getElem_mem hi)).2.2 y h0 h1
  obtain ⟨ds, e1, e3⟩ := days_l0 a0 l1 l2 hl ho y h0 h1 s (i + 1) (out ++ [d]) (by omega) (by simp; omega)
  refine ⟨ds, e1, ?_⟩
  refine Ev.step (f := fun k => (computusref16_Day.f k l2[i].f3.f0 l2[i].f3.f1 l2[i].f3.f2 l2[i].f3.f3 l2[i].f3.f4 l2[i].f3.f5 y).bind fun t => if out.length < 17592186044416 then computusref19_Days.l0 k y (out ++ [t]) (wrap64 ((i : Int) + 1)) a0 l1 l2 else none) (fun k => ?_) (Ev.bind d2 ?_)
  ·simp only [computusref19_Days.l0]
   rw [if_pos (by omega), if_pos (by omega), rdFs l2 i hi]
  ·refine Ev.congr (fun k => if_pos (by omega)) ?_
   rw [wq _ (by omega), show (i : Int) + 1 = ((i + 1 : Nat) : Int) by omega]
   exact e3
theorem in18_l1 (l : List Int) (hl : l.length ≤ 1000) (h0 : ∀ d ∈ l, 0 ≤ d) : ∀ (s i : Nat) (b q : Int), i + s = l.length → (i = 0 → q = 0) → (0 < i → 0 ≤ b ∧ b < l.length) → 0 < l.length → ∃ r : Int × Int, (0 ≤ r.1 ∧ r.1 < l.length) ∧ Ev (fun k => computusref18_In.l1 k l b q (i : Int)) r
 | 0, i, b, q, h, hq, hb, hp => ⟨(b, 0), hb (by omega), Ev.fin fun k => by simp only [computusref18_In.l1]; rw [if_neg (by omega)]⟩
 | s + 1, i, b, q, h, hq, hb, hp => by
  have hi : i < l.length := by omega
  have hw : wrap64 ((i : Int) + 1) = ((i + 1 : Nat) : Int) := by rw [wq _ (by omega)]; omega
  by_cases hc : l[i] ≥ q
  ·obtain ⟨r, r1, r2⟩ := in18_l1 l hl h0 s (i + 1) i l[i] (by omega) (by omega) (fun _ => ⟨by omega, by omega⟩) hp
   refine ⟨r, r1, Ev.step (fun k => ?_) r2⟩
   simp only [computusref18_In.l1]
   rw [if_pos (by omega), if_pos (by omega), rdI l i hi, if_pos hc, hw]
  ·obtain ⟨r, r1, r2⟩ := in18_l1 l hl h0 s (i + 1) b q (by omega) (by omega) (fun _ => hb (by
    by_cases hi0 : i = 0
    ·exfalso
     apply hc
     rw [hq hi0]
     exact h0 _ (List.getElem_mem hi)
    ·omega)) hp
   refine ⟨r, r1, Ev.step (fun k => ?_) r2⟩
   simp only [computusref18_In.l1]
   rw [if_pos (by omega), if_pos (by omega), rdI l i hi, if_neg hc, hw]
theorem in18_l0 (l : List Int) (hl : l.length ≤ 1000) (h0 : ∀ d ∈ l, 0 ≤ d) (hp : 0 < l.length) (day : Int) : ∀ (s i : Nat) (b q : Int), i + s = l.length → b < i → ∃ r : Int × Int, (0 ≤ r.1 ∧ r.1 < l.length) ∧ Ev (fun k => computusref18_In.l0 k l day b q (i : Int)) r
 | 0, i, b, q, h, hb => by
  by_cases hb0 : b ≥ 0
  ·refine ⟨(b, q), ⟨hb0, by omega⟩, Ev.fin fun k => ?_⟩
   simp only [computusref18_In.l0]
   rw [if_neg (by omega), if_pos hb0]
  ·obtain ⟨r, r1, r2⟩ := in18_l1 l hl h0 l.length 0 b 0 (by omega) (fun _ => rfl) (fun h => by omega) hp
   refine ⟨r, r1, Ev.step (fun k => ?_) r2⟩
   simp only [computusref18_In.l0]
   rw [if_neg (by omega), if_neg hb0]
   rfl
 | s + 1, i, b, q, h, hb => by
  have hi : i < l.length := by omega
  have hw : wrap64 ((i : Int) + 1) = ((i + 1 : Nat) : Int) := by rw [wq _ (by omega)]; omega
  obtain ⟨r, r1, r2⟩ := in18_l0 l hl h0 hp day s (i + 1) b q (by omega) (by omega)
  by_cases h1 : l[i] ≤ day
  ·by_cases h2 : l[i] ≥ q
   ·obtain ⟨r, r1, r2⟩ := in18_l0 l hl h0 hp day s (i + 1) i l[i] (by omega) (by omega)
    refine ⟨r, r1, Ev.step (fun k => ?_) r2⟩
    simp only [computusref18_In.l0]
    rw [if_pos (by omega), if_pos (by omega), rdI l i hi, if_pos h1, if_pos h2, hw]
   ·refine ⟨r, r1, Ev.step (fun k => ?_) r2⟩
    simp only [computusref18_In.l0]
    rw [if_pos (by omega), if_pos (by omega), rdI l i hi, if_pos h1, if_neg h2, hw]
  ·refine ⟨r, r1, Ev.step (fun k => ?_) r2⟩
   simp only [computusref18_In.l0]
   rw [if_pos (by omega), if_pos (by omega), rdI l i hi, if_neg h1, hw]
def prop (l2 : List Fs) (i : Nat) : Rc := ⟨2, i, (l2.getD i z68).f1, (l2.getD i z68).f0⟩
def candsOf (l2 : List Fs) (l : List Rc) : Prop := ∃ (h : Rc) (is : List Nat), l = h :: is.map (prop l2) ∧ h.f0 = 1 ∧ (∀ i ∈ is, i < l2.length) ∧ is.Pairwise (· < ·)
theorem in19_l0 (a0 : Int) (l1 : List Sn) (l2 : List Fs) (hl : l2.length ≤ 1000) (ds : List Int) (hd : ds.length = l2.length) (day : Int) (h : Rc) (hh : h.f0 = 1) : ∀ (s i : Nat) (is : List Nat), i + s = l2.length → (∀ j ∈ is, j < i) → is.Pairwise (· < ·) → is.length ≤ i → ∃ l, candsOf l2 l ∧ l.length ≤ l2.length + 1 ∧ Ev (fun k => computusref19_In.l0 k ds day (h :: is.map (prop l2)) (i : Int) a0 l1 l2) l
 | 0, i, is, hs, hj, hp, hn => ⟨_, ⟨h, is, rfl, hh, fun j hm => by have := hj j hm; omega, hp⟩, by simp; omega, Ev.fin fun k => by simp only [computusref19_In.l0]; rw [if_neg (by omega)]⟩
 | s + 1, i, is, hs, hj, hp, hn => by
  have hi : i < l2.length := by omega
  have hw : wrap64 ((i : Int) + 1) = ((i + 1 : Nat) : Int) := by rw [wq _ (by omega)]; omega
  by_cases hc : ds[i]'(by omega) = day
  ·obtain ⟨l, a1, a2, a3⟩ := in19_l0 a0 l1 l2 hl ds hd day h hh s (i + 1) (is ++ [i]) (by omega) (fun j hm => by
    rcases List.mem_append.1 hm with hm | hm
    ·have := hj j hm; omega
    ·simp at hm; omega) (by
    rw [List.pairwise_append]
    exact ⟨hp, by simp, fun a ha b hb => by simp at hb; subst hb; exact hj a ha⟩) (by simp; omega)
   refine ⟨l, a1, a2, Ev.step (fun k => ?_) a3⟩
   simp only [computusref19_In.l0]
   rw [if_pos (by omega), if_pos (by omega), if_pos (by omega), rdI ds i (by omega), if_pos hc, if_pos (by simp; omega), rdFs l2 i hi, hw]
   simp [prop, hi]
  ·obtain ⟨l, a1, a2, a3⟩ := in19_l0 a0 l1 l2 hl ds hd day h hh s (i + 1) is (by omega) (fun j hm => by have := hj j hm; omega) hp (by omega)
   refine ⟨l, a1, a2, Ev.step (fun k => ?_) a3⟩
   simp only [computusref19_In.l0]
   rw [if_pos (by omega), if_pos (by omega), if_pos (by omega), rdI ds i (by omega), if_neg hc, hw]
theorem cands_ev (a0 : Int) (l1 : List Sn) (l2 : List Fs) (hc : catOk l1 l2) (h1 : l1.length ≤ 1000) (h2 : l2.length ≤ 1000) (y day : Int) (hd : dayOk y day) : ∃ l, candsOf l2 l ∧ l.length ≤ l2.length + 1 ∧ Ev (fun k => computusref19_Of.f k a0 l1 l2 y day) l := by
 obtain ⟨c1, c2, c3⟩ := hc
 obtain ⟨y0, y1, y2, y3⟩ := hd
 have hb := fst_bounds 2 (y := y + 1) (by omega) (by omega)
 have hp := fst_pos y0
 obtain ⟨ss, s1, s2, s3⟩ := starts_l0 a0 l1 l2 h1 c2 y y0 y1 l1.length 0 [] (by omega) rfl (fun d hd => by cases hd)
 obtain ⟨ds, d1, d2⟩ := days_l0 a0 l1 l2 h2 c3 y y0 y1 l2.length 0 [] (by omega) rfl
 obtain ⟨r, r1, r2⟩ := in18_l0 ss (by omega) s2 (by omega) day ss.length 0 (-1) 0 (by omega) (by omega)
 have hin : ∃ l, candsOf l2 l ∧ l.length ≤ l2.length + 1 ∧ Ev (fun k => computusref19_In.f k a0 l1 l2 ss ds day) l := by
  have key : ∀ rank : Int, ∃ l, candsOf l2 l ∧ l.length ≤ l2.length + 1 ∧ Ev (fun k => computusref19_In.j0 k ds day [(⟨1, r.1, rank, (rd_T66 l1 r.1).f0⟩ : Rc)] a0 l1 l2) l := fun rank => by
   obtain ⟨l, a1, a2, a3⟩ := in19_l0 a0 l1 l2 h2 ds d1 day ⟨1, r.1, rank, (rd_T66 l1 r.1).f0⟩ rfl l2.length 0 [] (by omega) (fun j hm => by cases hm) List.Pairwise.nil (by simp)
   exact ⟨l, a1, a2, Ev.step (fun k => by simp only [computusref19_In.j0]; rfl) a3⟩
  have start : ∀ l, Ev (fun k => if day % 7 = 0 then computusref19_In.j0 k ds day [(⟨1, r.1, (rd_T66 l1 r.1).f1, (rd_T66 l1 r.1).f0⟩ : Rc)] a0 l1 l2 else computusref19_In.j0 k ds day [(⟨1, r.1, (rd_T66 l1 r.1).f2, (rd_T66 l1 r.1).f0⟩ : Rc)] a0 l1 l2) l → Ev (fun k => computusref19_In.f k a0 l1 l2 ss ds day) l := fun l e => by
   unfold computusref19_In.f
   refine Ev.bind (show Ev (fun k => computusref18_In.f k ss day) r from r2) ?_
   refine Ev.congr (fun k => by rw [if_pos r1.1, if_pos (by omega)]) ?_
   simp only [Option.bind_some]
   rw [ofq day (by omega)]
   simp only [Option.bind_some]
   exact e
  by_cases h7 : day % 7 = 0
  ·obtain ⟨l, a1, a2, a3⟩ := key (rd_T66 l1 r.1).f1
   exact ⟨l, a1, a2, start l (Ev.congr (fun k => if_pos h7) a3)⟩
  ·obtain ⟨l, a1, a2, a3⟩ := key (rd_T66 l1 r.1).f2
   exact ⟨l, a1, a2, start l (Ev.congr (fun k => if_neg h7) a3)⟩
 obtain ⟨l, a1, a2, a3⟩ := hin
 refine ⟨l, a1, a2, ?_⟩
 unfold computusref19_Of.f
 refine Ev.bind (show Ev (fun k => computusref18_Starts.f k a0 l1 l2 y) ss from s3) ?_
 refine Ev.bind (show Ev (fun k => computusref19_Days.f k a0 l1 l2 y) ds from d2) ?_
 exact Ev.bind a3 (Ev.now _)
end Go.Proofs.Ytopfjjdkffdjpaa.Q
end
section
namespace Go.Proofs.Ytopfjjdkffdjpaa.Q
open Go.RowKit Go.Proofs.YtopfjjdkffdjpaaW.PrintWords Go.Proofs.YtopfjjdkffdjpaaW.PrintLast Go.Proofs.Ytopfjjdkffdjpaa.Cal Go.Proofs.Ytopfjjdkffdjpaa.Srt
theorem awake21 : Ev (fun k => computuslaw21_awake.f k) true := Ev.of computuslaw21_awake.mono (k := 40) (by kernel_rfl)
def fwo (x : Rc) : Cd := ⟨x.f0, x.f1, x.f2, x.f3⟩
theorem rdRc (l : List Rc) (i : Nat) (h : i < l.length) : rd_T44 l (i : Int) = l[i] := by simp [rd_T44, List.getD, h]
theorem fwd21_l0 (l : List Rc) (hl : l.length ≤ 1000) : ∀ (n i : Nat) (out : List Cd), i + n = l.length → out.length ≤ i → Ev (fun k => computuslaw21_forward.l0 k l out (i : Int)) (out ++ (l.drop i).map fwo)
 | 0, i, out, h, _ => Ev.fin fun k => by
  simp only [computuslaw21_forward.l0]
  rw [if_neg (by omega), List.drop_of_length_le (by omega)]
  simp
 | n + 1, i, out, h, ho => by
  have hi : i < l.length := by omega
  have e := fwd21_l0 l hl n (i + 1) (out ++ [fwo l[i]]) (by omega) (by simp; omega)
  have e2 : out ++ (l.drop i).map fwo = (out ++ [fwo l[i]]) ++ (l.drop (i + 1)).map fwo := by rw [List.drop_eq_getElem_cons hi, List.map_cons]; simp
  rw [e2]
  refine Ev.step (fun k => ?_) e
  simp only [computuslaw21_forward.l0]
  rw [if_pos (by omega), if_pos (by omega), if_pos (by omega), rdRc l i hi, wq _ (by omega), show (i : Int) + 1 = ((i + 1 : Nat) : Int) by omega]
  rfl
theorem fwd21_f (l : List Rc) (hl : l.length ≤ 1000) : Ev (fun k => computuslaw21_forward.f k l) (l.map fwo) := by
 have := fwd21_l0 l hl l.length 0 [] (by omega) (by simp)
 simpa [computuslaw21_forward.f] using this
def pol (l2 : List Fs) (j : Int) : Int := (rd_T68 l2 j).f2
def c2 (l2 : List Fs) (j : Int) : Bool := decide (pol l2 j = 2)
def c3 (l2 : List Fs) (j : Int) : Bool := !c2 l2 j && decide (pol l2 j = 3)
def c1 (l2 : List Fs) (j : Int) : Bool := !c2 l2 j && !decide (pol l2 j = 3)
def selI (x : Cd) : Option Int := if x.f0 = 2 then some x.f1 else none
def feasts (t : List Cd) : List Int := t.filterMap selI
theorem fold_take (l2 : List Fs) : ∀ (t : List Cd) (st : Ls), t.foldl (rTake l2) st = (st.1 ++ (feasts t).filter (c2 l2), st.2.1 ++ (feasts t).filter (c3 l2), st.2.2 ++ (feasts t).filter (c1 l2))
 | [], st => by simp [feasts]
 | x :: t, st => by
  rw [List.foldl_cons, fold_take l2 t]
  unfold rTake feasts
  rw [List.filterMap_cons]
  by_cases h : x.f0 = 2
  ·rw [if_pos h]
   have hs : selI x = some x.f1 := by unfold selI; rw [if_pos h]
   rw [hs]
   unfold addTo
   by_cases h2 : (rd_T68 l2 x.f1).f2 = 2
   ·have e2 : c2 l2 x.f1 = true := decide_eq_true h2
    have e3 : c3 l2 x.f1 = false := by unfold c3; rw [e2]; rfl
    have e1 : c1 l2 x.f1 = false := by unfold c1; rw [e2]; rfl
    rw [if_pos h2]
    simp [List.filter_cons, e1, e2, e3]
   ·have e2 : c2 l2 x.f1 = false := decide_eq_false h2
    rw [if_neg h2]
    by_cases h3 : (rd_T68 l2 x.f1).f2 = 3
    ·have e3 : c3 l2 x.f1 = true := by unfold c3; rw [e2]; exact decide_eq_true h3
     have e1 : c1 l2 x.f1 = false := by unfold c1; rw [e2]; show (!decide (pol l2 x.f1 = 3)) = false; rw [show decide (pol l2 x.f1 = 3) = true from decide_eq_true h3]; rfl
     rw [if_pos h3]
     simp [List.filter_cons, e1, e2, e3]
    ·have e3 : c3 l2 x.f1 = false := by unfold c3; rw [e2]; exact decide_eq_false h3
     have e1 : c1 l2 x.f1 = true := by unfold c1; rw [e2]; show (!decide (pol l2 x.f1 = 3)) = true; rw [show decide (pol l2 x.f1 = 3) = false from decide_eq_false h3]; rfl
     rw [if_neg h3]
     simp [List.filter_cons, e1, e2, e3]
  ·rw [if_neg h]
   have hs : selI x = none := by unfold selI; rw [if_neg h]
   rw [hs]
theorem rAt_all (l2 : List Fs) (s : List Cd) (n : Nat) (hn : n = s.length) : rAt l2 s n = ((feasts (s.drop 1)).filter (c2 l2), (feasts (s.drop 1)).filter (c3 l2), (feasts (s.drop 1)).filter (c1 l2)) := by
 unfold rAt
 rw [hn, List.take_length, fold_take]
 simp
structure Day (l2 : List Fs) (h : Cd) (is : List Nat) (L : List Cd) : Prop where
 eq : L = h :: is.map (fun i => fwo (prop l2 i))
 h1 : h.f0 = 1
 lt : ∀ i ∈ is, i < l2.length
 inc : is.Pairwise (· < ·)
theorem day_of {l2 : List Fs} {l : List Rc} (hc : candsOf l2 l) : ∃ h is, Day l2 h is (l.map fwo) := by
 obtain ⟨h, is, rfl, h1, h2, h3⟩ := hc
 exact ⟨fwo h, is, by simp [List.map_map, Function.comp_def], h1, h2, h3⟩
section
variable {l2 : List Fs} {h : Cd} {is : List Nat} {L : List Cd}
theorem mem_of (d : Day l2 h is L) {x : Cd} (hx : x ∈ L) : (x = h) ∨ ∃ i ∈ is, x = fwo (prop l2 i) := by
 rw [d.eq] at hx
 rcases List.mem_cons.1 hx with rfl | hx
 ·exact .inl rfl
 ·obtain ⟨i, hi, rfl⟩ := List.mem_map.1 hx
  exact .inr ⟨i, hi, rfl⟩
theorem ok_of (d : Day l2 h is L) (ho : ∀ f ∈ l2, feastOk f) {x : Cd} (hx : x ∈ L) : rOkB l2 x = true := by
 unfold rOkB
 rcases mem_of d hx with rfl | ⟨i, hi, rfl⟩
 ·rw [decide_eq_false (by rw [d.h1]; omega)]
  rfl
 ·have hil := d.lt i hi
  have hf := (ho _ (List.getElem_mem hil)).2.1
  have e : rd_T68 l2 (fwo (prop l2 i)).f1 = l2[i] := rdFs l2 i hil
  rw [e]
  have e1 : (fwo (prop l2 i)).f1 = (i : Int) := rfl
  rw [e1, decide_eq_true (show (0 : Int) ≤ (i : Int) by omega), decide_eq_true (show (i : Int) < (l2.length : Int) by omega)]
  simp
  omega
theorem resolve_f (d : Day l2 h is L) (ho : ∀ f ∈ l2, feastOk f) (hL : L.length ≤ 1000) (a0 : Int) (l1 : List Sn) : occurrence_Resolve.f a0 l1 l2 L = some (((isort lessB L).headD z28).f0, ((isort lessB L).headD z28).f1, ((isort lessB L).headD z28).f2, ((isort lessB L).headD z28).f3, (feasts ((isort lessB L).drop 1)).filter (c2 l2), (feasts ((isort lessB L).drop 1)).filter (c3 l2), (feasts ((isort lessB L).drop 1)).filter (c1 l2)) := by
 unfold occurrence_Resolve.f
 rw [if_pos ⟨by omega, List.all_eq_true.2 fun x hx => ok_of d ho ((isort_perm lessB L).mem_iff.1 (List.mem_of_mem_drop hx))⟩, rAt_all l2 _ _ (length_isort _ _).symm]
end
theorem feasts_len (t : List Cd) : (feasts t).length ≤ t.length := List.length_filterMap_le _ _
theorem occ_start {f : Nat → Bool → Option Bool} {a0 : Int} {l1 : List Sn} {l2 : List Fs} {y day : Int} (h1 : Ev (fun k => f k true) true)
  (h2 : catOk l1 l2 → l1.length ≤ 8 → l2.length ≤ 30 → dayOk y day → Ev (fun k => f k false) true) :
  Ev (fun k => (computuslaw21_awake.f k).bind fun t => (if t = true then ((computusref17_Right.f k a0 l1 l2).bind fun t => (if t = true then ((computusref18_Fails.f k a0 l1 l2 y day).bind fun t => f k (t != 0)) else f k true)) else f k true)) true := by
 refine Ev.bind awake21 ?_
 refine Ev.congr (fun k => if_pos rfl) ?_
 obtain ⟨b, e, p⟩ := right_ev a0 l1 l2
 refine Ev.bind e ?_
 cases b with
 | false => exact Ev.congr (fun k => if_neg (by simp)) h1
 | true =>
  obtain ⟨p1, p2, p3, p4⟩ := p rfl
  refine Ev.congr (fun k => if_pos rfl) ?_
  obtain ⟨r, e2, q⟩ := fails18_ev a0 l1 l2 p1 y day
  refine Ev.bind e2 ?_
  by_cases hz : r = 0
  ·subst hz
   exact h2 p2 p3 p4 (q rfl)
  ·have : (r != 0) = true := bne_iff_ne.mpr hz
   rw [this]
   exact h1
end Go.Proofs.Ytopfjjdkffdjpaa.Q
end
section
namespace Go.Proofs.Ytopfjjdkffdjpaa.Q
open Go.RowKit Go.Proofs.YtopfjjdkffdjpaaW.PrintWords Go.Proofs.YtopfjjdkffdjpaaW.PrintLast Go.Proofs.Ytopfjjdkffdjpaa.Cal Go.Proofs.Ytopfjjdkffdjpaa.Srt
theorem wD (d : Nat) (h : d < 4611686018427387904) : wrap64 ((d : Int) + 1) = ((d + 1 : Nat) : Int) := by unfold wrap64; omega
theorem numd_l0 (l : List Int) (hl : l.length ≤ 1000) : ∀ (n i : Nat), i + n = l.length → Ev (fun k => computusref08_Numbers.l0 k l l (i : Int)) true
 | 0, i, h => Ev.fin fun k => by
  simp only [computusref08_Numbers.l0]
  rw [if_neg (by omega)]
 | n + 1, i, h => by
  refine Ev.step (fun k => ?_) (numd_l0 l hl n (i + 1) (by omega))
  simp only [computusref08_Numbers.l0]
  rw [if_pos (by omega), if_pos (by omega), if_pos (by omega), if_pos trivial, wD i (by omega)]
theorem numd_f (l : List Int) (hl : l.length ≤ 1000) : Ev (fun k => computusref08_Numbers.f k l l) true := by
 refine Ev.congr (fun k => ?_) (numd_l0 l hl l.length 0 (by omega))
 unfold computusref08_Numbers.f
 rw [if_pos rfl]
 rfl
def dspC (l2 : List Fs) (p0 p1 : Int) (C : List Int) : List Int := if p0 = 2 then (if (rd_T68 l2 p1).f2 = 3 then C else p1 :: C) else C
def dspO (l2 : List Fs) (p0 p1 : Int) (O : List Int) : List Int := if p0 = 2 then (if (rd_T68 l2 p1).f2 = 3 then p1 :: O else O) else O
theorem dsp_f (a0 : Int) (l1 : List Sn) (l2 : List Fs) (p0 p1 p2 : Int) (p3 : ByteArray) (C O I : List Int) (hC : C.length ≤ 100) (hO : O.length ≤ 100) (hI : I.length ≤ 100) (hp : p0 = 2 → 0 ≤ p1 ∧ p1 < (l2.length : Int)) :
  occurrence_Displace.f a0 l1 l2 p0 p1 p2 p3 C O I = some (0, 0, 0, ⟨#[]⟩, dspC l2 p0 p1 C, dspO l2 p0 p1 O, I) := by
 unfold occurrence_Displace.f dspC dspO
 rw [if_pos ⟨by omega, by omega, by omega⟩]
 by_cases h : p0 = 2
 ·rw [if_pos h, if_pos h, if_pos h, if_pos (hp h)]
  by_cases h3 : (rd_T68 l2 p1).f2 = 3
  ·rw [if_pos h3, if_pos h3, if_pos h3]
  ·rw [if_neg h3, if_neg h3, if_neg h3]
 ·rw [if_neg h, if_neg h, if_neg h]
theorem dsp_j3 (l2 : List Fs) (p0 p1 p2 : Int) (p3 : ByteArray) (C O I : List Int) (hk : p0 = 1 ∨ p0 = 2) (hC : C.length ≤ 100) (hO : O.length ≤ 100) (q0 q1 q2 r0 r1 r2 : Int) (q3 r3 : ByteArray) :
  Ev (fun k => computuslaw21_OccurrenceDisplaces.j3 k (wrap64 ((wrap64 ((wrap64 (((dspC l2 p0 p1 C).length : Int) + ((dspO l2 p0 p1 O).length : Int))) - (C.length : Int))) - (O.length : Int))) false p0 p1 p2 p3 C O I q0 q1 q2 q3 C O I r0 r1 r2 r3 (dspC l2 p0 p1 C) (dspO l2 p0 p1 O) I) true := by
 have wq_ : ∀ n : Int, -1000 ≤ n ∧ n ≤ 1000 → wrap64 n = n := fun n h => by unfold wrap64; omega
 refine Ev.fin fun k => ?_
 simp only [computuslaw21_OccurrenceDisplaces.j3]
 rw [if_neg (by simp)]
 rcases hk with h | h
 ·have h2 : ¬ p0 = 2 := by omega
  unfold dspC dspO
  rw [if_pos h, if_neg h2, if_neg h2, wq_ (_ + _) (by omega), wq_ (_ + _ - _) (by omega), wq_ _ (by omega)]
  congr 1
  rw [beq_iff_eq]
  omega
 ·unfold dspC dspO
  rw [if_neg (by omega), if_pos h, if_pos h]
  by_cases h3 : (rd_T68 l2 p1).f2 = 3
  ·rw [if_pos h3, if_pos h3, List.length_cons, wq_ (_ + _) (by omega), wq_ (_ + _ - _) (by omega), wq_ _ (by omega), if_pos (by omega), if_neg (by omega), if_pos (by omega), if_pos (by omega)]
   simp [rd]
  ·rw [if_neg h3, if_neg h3, List.length_cons, wq_ (_ + _) (by omega), wq_ (_ + _ - _) (by omega), wq_ _ (by omega), if_pos (by omega), if_pos (by omega), if_pos (by omega), if_pos (by simp [rd])]
section
variable (a0 : Int) (l1 : List Sn) (l2 : List Fs) (p0 p1 p2 : Int) (p3 : ByteArray) (C O I : List Int) (q0 q1 q2 : Int) (q3 : ByteArray) (r0 r1 r2 : Int) (r3 : ByteArray)
theorem dsp_l1 (hk : p0 = 1 ∨ p0 = 2) (hC : C.length ≤ 100) (hO : O.length ≤ 100) (hI : I.length ≤ 100) (hp : p0 = 2 → 0 ≤ p1 ∧ p1 < (l2.length : Int)) (C' O' : List Int) : ∀ (n i : Nat) (I' : List Int), I'.length ≤ 1000 → i + n = I'.length →
  Ev (fun k => computuslaw21_OccurrenceDisplaces.l1 k (i : Int) a0 l1 l2 p0 p1 p2 p3 C O I q0 q1 q2 q3 C O I r0 r1 r2 r3 C' O' I') true
 | 0, i, I', hl, h => by
  refine Ev.step (f := fun k => (computusref08_Numbers.f k C C).bind fun t => if t = true then ((computusref08_Numbers.f k O O).bind fun t => if t = true then ((computusref08_Numbers.f k I I).bind fun t => if t = true then ((computusref08_Numbers.f k I I).bind fun t => computuslaw21_OccurrenceDisplaces.j3 k (wrap64 ((wrap64 ((wrap64 (((dspC l2 p0 p1 C).length : Int) + ((dspO l2 p0 p1 O).length : Int))) - (C.length : Int))) - (O.length : Int))) (!t) p0 p1 p2 p3 C O I q0 q1 q2 q3 C O I 0 0 0 ⟨#[]⟩ (dspC l2 p0 p1 C) (dspO l2 p0 p1 O) I) else (computuslaw21_OccurrenceDisplaces.j3 k (wrap64 ((wrap64 ((wrap64 (((dspC l2 p0 p1 C).length : Int) + ((dspO l2 p0 p1 O).length : Int))) - (C.length : Int))) - (O.length : Int))) true p0 p1 p2 p3 C O I q0 q1 q2 q3 C O I 0 0 0 ⟨#[]⟩ (dspC l2 p0 p1 C) (dspO l2 p0 p1 O) I)) else (computuslaw21_OccurrenceDisplaces.j3 k (wrap64 ((wrap64 ((wrap64 (((dspC l2 p0 p1 C).length : Int) + ((dspO l2 p0 p1 O).length : Int))) - (C.length : Int))) - (O.length : Int))) true p0 p1 p2 p3 C O I q0 q1 q2 q3 C O I 0 0 0 ⟨#[]⟩ (dspC l2 p0 p1 C) (dspO l2 p0 p1 O) I)) else (computuslaw21_OccurrenceDisplaces.j3 k (wrap64 ((wrap64 ((wrap64 (((dspC l2 p0 p1 C).length : Int) + ((dspO l2 p0 p1 O).length : Int))) - (C.length : Int))) - (O.length : Int))) true p0 p1 p2 p3 C O I q0 q1 q2 q3 C O I 0 0 0 ⟨#[]⟩ (dspC l2 p0 p1 C) (dspO l2 p0 p1 O) I)) (fun k => ?_) ?_
  ·simp only [computuslaw21_OccurrenceDisplaces.l1]
   rw [if_neg (by omega), dsp_f a0 l1 l2 p0 p1 p2 p3 C O I hC hO hI hp, Option.bind_some]
  ·refine Ev.bind (numd_f C (by omega)) ?_
   refine Ev.congr (fun k => if_pos rfl) ?_
   refine Ev.bind (numd_f O (by omega)) ?_
   refine Ev.congr (fun k => if_pos rfl) ?_
   refine Ev.bind (numd_f I (by omega)) ?_
   refine Ev.congr (fun k => if_pos rfl) ?_
   refine Ev.bind (numd_f I (by omega)) ?_
   exact dsp_j3 l2 p0 p1 p2 p3 C O I hk hC hO q0 q1 q2 0 0 0 q3 ⟨#[]⟩
 | n + 1, i, I', hl, h => by
  have ih := fun X hX => dsp_l1 hk hC hO hI hp C' O' n (i + 1) X hX
  refine Ev.step (fun k => ?_) (ih (I'.set i (wrap64 (rd I' (i : Int) + 1))) (by rw [List.length_set]; exact hl) (by rw [List.length_set]; omega))
  simp only [computuslaw21_OccurrenceDisplaces.l1]
  rw [if_pos (by omega), if_pos (by omega), Int.toNat_natCast, wD i (by omega)]
theorem dsp_l0 (hk : p0 = 1 ∨ p0 = 2) (hC : C.length ≤ 100) (hO : O.length ≤ 100) (hI : I.length ≤ 100) (hp : p0 = 2 → 0 ≤ p1 ∧ p1 < (l2.length : Int)) (O' I' : List Int) (hI' : I'.length ≤ 1000) : ∀ (n i : Nat) (C' : List Int), C'.length ≤ 1000 → i + n = C'.length →
  Ev (fun k => computuslaw21_OccurrenceDisplaces.l0 k (i : Int) a0 l1 l2 p0 p1 p2 p3 C O I q0 q1 q2 q3 C O I r0 r1 r2 r3 C' O' I') true
 | 0, i, C', hl, h => by
  refine Ev.step (fun k => ?_) (dsp_l1 a0 l1 l2 p0 p1 p2 p3 C O I q0 q1 q2 q3 r0 r1 r2 r3 hk hC hO hI hp C' O' I'.length 0 I' hI' (by omega))
  simp only [computuslaw21_OccurrenceDisplaces.l0]
  rw [if_neg (by omega)]
  rfl
 | n + 1, i, C', hl, h => by
  have ih := fun X hX => dsp_l0 hk hC hO hI hp O' I' hI' n (i + 1) X hX
  refine Ev.step (fun k => ?_) (ih (C'.set i (wrap64 (rd C' (i : Int) + 1))) (by rw [List.length_set]; exact hl) (by rw [List.length_set]; omega))
  simp only [computuslaw21_OccurrenceDisplaces.l0]
  rw [if_pos (by omega), if_pos (by omega), Int.toNat_natCast, wD i (by omega)]
end
theorem Pure.OccurrenceDisplaces : computuslaw21_OccurrenceDisplaces.Pure := by
 intro a0 l1 l2 y day _ _ _ _ _ _ _
 refine Ev.rounds (g := fun k => computuslaw21_OccurrenceDisplaces.f k a0 l1 l2 y day) ?_
 unfold computuslaw21_OccurrenceDisplaces.f
 refine occ_start (f := fun k b => computuslaw21_OccurrenceDisplaces.j0 k y day b a0 l1 l2) ?_ (fun hc hl1 hl2 hd => ?_)
 ·refine Ev.step (f := fun k => (computuslaw21_awake.f k).bind fun t => some t) (fun k => ?_) (Ev.bind awake21 (Ev.now _))
  simp only [computuslaw21_OccurrenceDisplaces.j0]
  rw [if_pos trivial]
 ·obtain ⟨l, hl, hn, he⟩ := cands_ev a0 l1 l2 hc (by omega) (by omega) y day hd
  obtain ⟨h, is, d⟩ := day_of hl
  have hf := resolve_f d hc.2.2 (by rw [List.length_map]; omega) a0 l1
  obtain ⟨p, T, hS⟩ : ∃ p T, isort lessB (l.map fwo) = p :: T := by
   have hlen : (isort lessB (l.map fwo)).length = l.length := by rw [length_isort, List.length_map]
   have hpos : 0 < l.length := by
    have := congrArg List.length d.eq
    simp at this
    omega
   match hs : isort lessB (l.map fwo) with
   | [] => rw [hs] at hlen; simp at hlen; omega
   | p :: T => exact ⟨p, T, rfl⟩
  have hp : p ∈ l.map fwo := (isort_perm lessB (l.map fwo)).mem_iff.1 (by rw [hS]; exact List.mem_cons_self)
  have hk : p.f0 = 1 ∨ p.f0 = 2 := by
   rcases mem_of d hp with rfl | ⟨i, _, rfl⟩
   ·exact .inl d.h1
   ·exact .inr rfl
  have hpr : p.f0 = 2 → 0 ≤ p.f1 ∧ p.f1 < (l2.length : Int) := fun e => by
   have := rOkB_of (ok_of d hc.2.2 hp) e
   exact ⟨this.1, this.2.1⟩
  have hlen : (feasts ((isort lessB (l.map fwo)).drop 1)).length ≤ 40 := by
   have := feasts_len ((isort lessB (l.map fwo)).drop 1)
   rw [List.length_drop, length_isort, List.length_map] at this
   omega
  rw [hS] at hf hlen
  have hfl : ∀ c : Int → Bool, ((feasts ((p :: T).drop 1)).filter c).length ≤ 100 := fun c => by have := List.length_filter_le c (feasts ((p :: T).drop 1)); omega
  have hcl : (dspC l2 p.f0 p.f1 ((feasts ((p :: T).drop 1)).filter (c2 l2))).length ≤ 1000 := by
   have := hfl (c2 l2)
   unfold dspC
   split
   ·split
    ·omega
    ·rw [List.length_cons]; omega
   ·omega
  refine Ev.step (f := fun k => ((computusref19_Of.f k a0 l1 l2 y day).bind fun t654 => ((computuslaw21_forward.f k t654).bind fun t657 => ((occurrence_Resolve.f a0 l1 l2 t657).bind fun bt660 => ((some (([] : List Int) : List Int)).bind fun y674 => (if y674.length + bt660.2.2.2.2.1.length < 17592186044416 then ((some (([] : List Int) : List Int)).bind fun y680 => (if y680.length + bt660.2.2.2.2.2.1.length < 17592186044416 then ((some (([] : List Int) : List Int)).bind fun y686 => (if y686.length + bt660.2.2.2.2.2.2.length < 17592186044416 then ((occurrence_Displace.f a0 l1 l2 bt660.1 bt660.2.1 bt660.2.2.1 bt660.2.2.2.1 bt660.2.2.2.2.1 bt660.2.2.2.2.2.1 bt660.2.2.2.2.2.2).bind fun bt693 => (computuslaw21_OccurrenceDisplaces.l0 k 0 a0 l1 l2 bt660.1 bt660.2.1 bt660.2.2.1 bt660.2.2.2.1 bt660.2.2.2.2.1 bt660.2.2.2.2.2.1 bt660.2.2.2.2.2.2 0 0 0 (⟨#[]⟩ : ByteArray) (y674 ++ bt660.2.2.2.2.1) (y680 ++ bt660.2.2.2.2.2.1) (y686 ++ bt660.2.2.2.2.2.2) bt693.1 bt693.2.1 bt693.2.2.1 bt693.2.2.2.1 bt693.2.2.2.2.1 bt693.2.2.2.2.2.1 bt693.2.2.2.2.2.2)) else (none))) else (none))) else (none))))))) (fun k => ?_) ?_
  ·simp only [computuslaw21_OccurrenceDisplaces.j0]
   rw [if_neg (by simp)]
  ·refine Ev.bind he ?_
   refine Ev.bind (fwd21_f l (by omega)) ?_
   have hdf := dsp_f a0 l1 l2 p.f0 p.f1 p.f2 p.f3 ((feasts ((p :: T).drop 1)).filter (c2 l2)) ((feasts ((p :: T).drop 1)).filter (c3 l2)) ((feasts ((p :: T).drop 1)).filter (c1 l2)) (hfl _) (hfl _) (hfl _) hpr
   have g2 := hfl (c2 l2)
   have g3 := hfl (c3 l2)
   have g1 := hfl (c1 l2)
   refine Ev.congr (fun k => ?_) (dsp_l0 a0 l1 l2 p.f0 p.f1 p.f2 p.f3 ((feasts ((p :: T).drop 1)).filter (c2 l2)) ((feasts ((p :: T).drop 1)).filter (c3 l2)) ((feasts ((p :: T).drop 1)).filter (c1 l2)) 0 0 0 ⟨#[]⟩ 0 0 0 ⟨#[]⟩ hk (hfl _) (hfl _) (hfl _) hpr (dspO l2 p.f0 p.f1 ((feasts ((p :: T).drop 1)).filter (c3 l2))) ((feasts ((p :: T).drop 1)).filter (c1 l2)) (by omega) (dspC l2 p.f0 p.f1 ((feasts ((p :: T).drop 1)).filter (c2 l2))).length 0 _ hcl (by omega))
   simp only [hf, Option.bind_some, List.nil_append, List.length_nil, Nat.zero_add, List.headD_cons, hdf]
   rw [if_pos (by omega), if_pos (by omega), if_pos (by omega)]
   rfl
end Go.Proofs.Ytopfjjdkffdjpaa.Q
end
section
namespace Go.Proofs.Ytopfjjdkffdjpaa.Q
open Go.ChangeShapes Go.WideShapes Go.Proofs.YtopfjjdkffdjpaaW.PrintWords
def Opens {α : Type} (P : Program) (t : TypeId) (d : Kd α) (Wf : α → Prop) : Prop :=
 ∀ (H : Type) (enc : TypeId × Value → H) (w : World) (fuel : Nat) (cs : List Value) (y : DataW H × List MemPlace),
  DataW.trod enc P w 0 (fun _ => true) true fuel t cs = some y → ∃ x, d.K w x cs ∧ Wf x
theorem Opens.int {P : Program} {t : TypeId} {k : IntKind} (ht : P.underlying t = some (.int k)) : Opens P t (Kd.int k) (fun n => (Lit.int k n).wf = true) := by
 intro H enc w fuel cs y h
 obtain ⟨n, hc, _, hw⟩ := DataW.trod_int ht h
 exact ⟨n, hc, hw⟩
theorem Opens.bool {P : Program} {t : TypeId} (ht : P.underlying t = some .bool) : Opens P t Kd.bool (fun _ => True) := by
 intro H enc w fuel cs y h
 cases fuel with
 | zero => simp [DataW.trod] at h
 | succ n =>
  have hb : ∃ b, cs = [.bool b] := by
   unfold DataW.trod at h
   rw [ht] at h
   split at h <;> simp_all
  obtain ⟨b, rfl⟩ := hb
  exact ⟨b, rfl, trivial⟩
theorem Opens.string {P : Program} {t : TypeId} (ht : P.underlying t = some .string) : Opens P t Kd.string (fun s => s.size ≤ maxLen) := by
 intro H enc w fuel cs y h
 cases fuel with
 | zero => simp [DataW.trod] at h
 | succ n =>
  unfold DataW.trod at h
  rw [ht] at h
  split at h <;> simp_all
  obtain ⟨h1, _⟩ := h
  exact ⟨_, rfl, h1⟩
theorem mapM_range {β : Type} (f : Nat → Option β) : ∀ (n : Nat) (ys : List β), (List.range n).mapM f = some ys → ys.length = n ∧ ∀ i, i < n → f i = ys[i]? := by
 intro n
 induction n with
 | zero => intro ys h; simp at h; subst h; simp
 | succ n ih =>
  intro ys h
  rw [List.range_succ, List.mapM_append] at h
  simp only [Option.bind_eq_bind, Option.bind_eq_some_iff, List.mapM_cons, List.mapM_nil, Option.pure_def] at h
  obtain ⟨a, ha, b, ⟨c, hc, d, hd, hb⟩, he⟩ := h
  cases hd
  cases hb
  cases he
  obtain ⟨hl, hall⟩ := ih a ha
  refine ⟨by simp [hl], fun i hi => ?_⟩
  by_cases hin : i < n
  ·rw [hall i hin, List.getElem?_append_left (by omega)]
  ·obtain rfl : i = n := by omega
   rw [hc, List.getElem?_append_right (by omega), hl]
   simp
theorem cells?_at {w : World} {a : Addr} {n : Nat} {cs : List Value} (h : w.cells? 0 a n = some cs) : cs.length = n ∧ ∀ i u, cs[i]? = some u → w.cell? (a.add i) = some u := by
 unfold World.cells? at h
 rw [if_pos (Nat.zero_le _)] at h
 obtain ⟨hl, hall⟩ := mapM_range _ _ _ h
 refine ⟨hl, fun i u hu => ?_⟩
 have hi : i < n := by have := (List.getElem?_eq_some_iff.1 hu).1; omega
 rw [hall i hi, hu]
theorem Opens.slice {α : Type} {P : Program} {t e : TypeId} {d : Kd α} {Wf : α → Prop} (ht : P.underlying t = some (.slice e)) (he : P.cellsOf e = d.sz) (ho : Opens P e d Wf) : Opens P t (Kd.slice e d) (fun xs => xs.length ≤ maxLen ∧ ∀ x ∈ xs, Wf x) := by
 classical
 intro H enc w fuel cs y h
 rcases Go.Deep.open_slice ht h with ⟨rfl, _⟩ | ⟨a, len, cap, m, n, D, Pl, rfl, _, hl, hm, hmm, _, hel⟩
 ·exact ⟨[], ⟨none, 0, rfl, Nat.le_refl _, rfl, Nat.zero_le _, fun h0 => absurd h0 (by simp)⟩, by simp [maxLen]⟩
 ·have hx : ∀ i, i < len → ∃ x cs', cs'.length = d.sz ∧ (∀ j u, cs'[j]? = some u → w.cell? (a.add (i * d.sz + j)) = some u) ∧ d.K w x cs' ∧ Wf x := by
   intro i hi
   obtain ⟨cs', hc, htr⟩ := hel i (by rw [hmm]; simp; omega)
   rw [he] at hc
   obtain ⟨hcl, hcc⟩ := cells?_at hc
   obtain ⟨x, hK, hW⟩ := ho H enc w n cs' _ htr
   refine ⟨x, cs', hcl, fun j u hu => ?_, hK, hW⟩
   have := hcc j u hu
   rwa [Go.Deep.add_add] at this
  have hf : ∃ f : (i : Nat) → i < len → α, ∀ i (hi : i < len), ∃ cs', cs'.length = d.sz ∧ (∀ j u, cs'[j]? = some u → w.cell? (a.add (i * d.sz + j)) = some u) ∧ d.K w (f i hi) cs' ∧ Wf (f i hi) :=
   ⟨fun i hi => Classical.choose (hx i hi), fun i hi => Classical.choose_spec (hx i hi)⟩
  obtain ⟨f, hf⟩ := hf
  have hlen : (List.ofFn (fun i : Fin len => f i.1 i.2)).length = len := by simp
  refine ⟨List.ofFn (fun i : Fin len => f i.1 i.2), ⟨some a, cap, by rw [hlen], by rw [hlen]; exact hl, rfl, by rw [hlen]; unfold maxLen at hm; omega, fun _ => ⟨a, rfl, fun j p hj => ?_⟩⟩, by rw [hlen]; omega, fun x hxm => ?_⟩
  ·have hjl : j < len := by have := (List.getElem?_eq_some_iff.1 hj).1; simpa using this
   rw [List.getElem?_eq_getElem (by simpa using hjl)] at hj
   simp at hj
   subst hj
   obtain ⟨cs', h1, h2, h3, h4⟩ := hf j hjl
   exact ⟨cs', h1, h3, h2⟩
  ·obtain ⟨i, rfl⟩ := List.mem_ofFn.1 hxm
   exact (hf i.1 i.2).choose_spec.2.2.2
def OpensF {α : Type} (P : Program) (off : Nat) (fs : List Field) (d : Kd α) (Wf : α → Prop) : Prop :=
 ∀ (H : Type) (enc : TypeId × Value → H) (w : World) (fuel : Nat) (cs : List Value) (ys : List (DataW H × List MemPlace)), cs.length = off + d.sz →
  (fs.mapM fun f => DataW.trod enc P w 0 (fun _ => true) true fuel f.type ((cs.drop f.offset).take (P.cellsOf f.type))) = some ys → ∃ x, d.K w x (cs.drop off) ∧ Wf x
theorem OpensF.last {α : Type} {P : Program} {off : Nat} {f : Field} {d : Kd α} {Wf : α → Prop} (hoff : f.offset = off) (hc : P.cellsOf f.type = d.sz) (h : Opens P f.type d Wf) : OpensF P off [f] d Wf := by
 intro H enc w fuel cs ys hl hm
 simp only [List.mapM_cons, List.mapM_nil, Option.bind_eq_bind, Option.bind_eq_some_iff] at hm
 obtain ⟨a, ha, _⟩ := hm
 rw [hoff, hc, List.take_of_length_le (by rw [List.length_drop]; omega)] at ha
 exact h H enc w fuel _ a ha
theorem OpensF.cons {α β : Type} {P : Program} {off : Nat} {f : Field} {fs : List Field} {d : Kd α} {d' : Kd β} {Wf : α → Prop} {Wf' : β → Prop} (hoff : f.offset = off) (hc : P.cellsOf f.type = d.sz) (h : Opens P f.type d Wf)
  (h' : OpensF P (off + d.sz) fs d' Wf') : OpensF P off (f :: fs) (Kd.pair d d') (fun x => Wf x.1 ∧ Wf' x.2) := by
 intro H enc w fuel cs ys hl hm
 have hsz : (Kd.pair d d').sz = d.sz + d'.sz := rfl
 rw [hsz] at hl
 simp only [List.mapM_cons, Option.bind_eq_bind, Option.bind_eq_some_iff] at hm
 obtain ⟨a, ha, b, hb, _⟩ := hm
 rw [hoff, hc] at ha
 obtain ⟨x, hx, hwx⟩ := h H enc w fuel _ a ha
 obtain ⟨x', hx', hwx'⟩ := h' H enc w fuel cs b (by omega) hb
 refine ⟨(x, x'), ⟨_, _, ?_, hx, hx'⟩, hwx, hwx'⟩
 rw [← List.drop_drop, List.take_append_drop]
theorem Opens.struct {α : Type} {P : Program} {t : TypeId} {fs : Array Field} {d : Kd α} {Wf : α → Prop} (ht : P.underlying t = some (.struct fs)) (hc : P.cellsOf t = d.sz) (h : OpensF P 0 fs.toList d Wf) : Opens P t d Wf := by
 intro H enc w fuel cs y hy
 cases fuel with
 | zero => simp [DataW.trod] at hy
 | succ n =>
  unfold DataW.trod at hy
  rw [ht] at hy
  simp only at hy
  split at hy
  ·rename_i hl
   simp only [Option.map_eq_some_iff] at hy
   obtain ⟨ys, hys, _⟩ := hy
   have := h H enc w n cs ys (by omega) hys
   simpa using this
  ·cases hy
theorem Opens.iso {α β : Type} {P : Program} {t : TypeId} {d : Kd α} {Wf : α → Prop} {f : β → α} (h : Opens P t d Wf) (g : α → β) (hg : ∀ x, f (g x) = x) : Opens P t (Kd.iso d f) (fun b => Wf (f b)) := by
 intro H enc w fuel cs y hy
 obtain ⟨x, hx, hw⟩ := h H enc w fuel cs y hy
 exact ⟨g x, by show d.K w (f (g x)) cs; rw [hg]; exact hx, by show Wf (f (g x)); rw [hg]; exact hw⟩
theorem Opens.imp {α : Type} {P : Program} {t : TypeId} {d : Kd α} {Wf Wf' : α → Prop} (h : Opens P t d Wf) (hw : ∀ x, Wf x → Wf' x) : Opens P t d Wf' := by
 intro H enc w fuel cs y hy
 obtain ⟨x, hx, hwx⟩ := h H enc w fuel cs y hy
 exact ⟨x, hx, hw _ hwx⟩
theorem open_struct {H : Type} {enc : TypeId × Value → H} {α : Type} {P : Program} {w : World} {r : Reach} {b0 : Nat} {t : TypeId} {fs : Array Field} {d : Kd α} {Wf : α → Prop} {v : Value} {y : DataW H} {p : List MemPlace} (ht : P.underlying t = some (.struct fs)) (ho : Opens P t d Wf)
  (hv : Value.okWide P w r b0 t v) (h : DataW.Trod enc P w 0 (fun _ => true) true t v y p) : ∃ (cs : List Value) (x : α), v = .agg cs.toArray ∧ d.K w x cs ∧ Wf x := by
 obtain ⟨cs, rfl, hsz⟩ := okWide_struct ht hv
 obtain ⟨fuel, hf⟩ := h
 obtain ⟨x, hK, hW⟩ := ho H enc w fuel _ _ hf
 exact ⟨cs.toList, x, by simp, hK, hW⟩
end Go.Proofs.Ytopfjjdkffdjpaa.Q
end
section
namespace Go.Proofs.Ytopfjjdkffdjpaa.Q
open Go.RowKit Go.Proofs.YtopfjjdkffdjpaaW.PrintWords
theorem op64 : Opens Try.prog 64 k64 wf64 := (Opens.struct Try.underlying64 (by kernel_rfl) (OpensF.cons rfl (by kernel_rfl) (Opens.int Try.underlying3) (OpensF.cons rfl (by kernel_rfl) (Opens.int Try.underlying3) (OpensF.cons rfl (by kernel_rfl) (Opens.int Try.underlying3) (OpensF.cons rfl (by kernel_rfl) (Opens.int Try.underlying3) (OpensF.cons rfl (by kernel_rfl) (Opens.int Try.underlying3) (OpensF.last rfl (by kernel_rfl) (Opens.int Try.underlying3)))))))).iso (fun x => ⟨x.1, x.2.1, x.2.2.1, x.2.2.2.1, x.2.2.2.2.1, x.2.2.2.2.2⟩) (fun _ => rfl)
theorem op66 : Opens Try.prog 66 k66 wf66 := (Opens.struct Try.underlying66 (by kernel_rfl) (OpensF.cons rfl (by kernel_rfl) (Opens.string Try.underlying9) (OpensF.cons rfl (by kernel_rfl) (Opens.int Try.underlying3) (OpensF.cons rfl (by kernel_rfl) (Opens.int Try.underlying3) (OpensF.last rfl (by kernel_rfl) op64))))).iso (fun x => ⟨x.1, x.2.1, x.2.2.1, x.2.2.2⟩) (fun _ => rfl)
theorem op68 : Opens Try.prog 68 k68 wf68 := (Opens.struct Try.underlying68 (by kernel_rfl) (OpensF.cons rfl (by kernel_rfl) (Opens.string Try.underlying9) (OpensF.cons rfl (by kernel_rfl) (Opens.int Try.underlying3) (OpensF.cons rfl (by kernel_rfl) (Opens.int Try.underlying3) (OpensF.last rfl (by kernel_rfl) op64))))).iso (fun x => ⟨x.1, x.2.1, x.2.2.1, x.2.2.2⟩) (fun _ => rfl)
theorem op36 : Opens Try.prog 36 k36 wf36 := (Opens.struct Try.underlying36 (by kernel_rfl) (OpensF.cons rfl (by kernel_rfl) (Opens.int Try.underlying3) (OpensF.cons rfl (by kernel_rfl) (Opens.slice Try.underlying33 (by kernel_rfl) op66) (OpensF.last rfl (by kernel_rfl) (Opens.slice Try.underlying34 (by kernel_rfl) op68))))).iso (fun x => ⟨x.1, x.2.1, x.2.2⟩) (fun _ => rfl)
end Go.Proofs.Ytopfjjdkffdjpaa.Q
end
section
-- PRINTED BY print.sh 35421559b90ae4d0a3588c463048766b98c2df88dd9212a6774a882060cdf62d: not written by this session
-- PRINTED WORDS (module Derived/Print/Sized.lean): go-gate-2's, for the rows of laws over slices: an AI agent of Go's test side, Tue Nov 17 2026; no person has read it. Lean checks it.
namespace Go.Proofs.YtopfjjdkffdjpaaW.PrintWords
open Go.ChangeShapes Go.WideShapes
end Go.Proofs.YtopfjjdkffdjpaaW.PrintWords
end
section
namespace Go.Proofs.Ytopfjjdkffdjpaa.occurrenceDisplaces
open Go.ChangeShapes Go.WideShapes Go.ChangeAt Go.RowKit Go.Proofs.YtopfjjdkffdjpaaW.PrintWords Go.Proofs.Ytopfjjdkffdjpaa.Q
open Go.ChangeMaps (open_string shut_string)
theorem own : ownKnob Try.prog.godebug = none := by kernel_rfl
theorem laidOut : laidOutB Try.prog = true := by kernel_rfl
theorem lifted (os : Os) (started : os.Started) (H : Type) (enc : TypeId × Value → H) :
  ReturnsInHanded {} Try.checked os 6 .any (Rows.occurrenceDisplacesSpec.pre6 enc Try.prog Try.f6 Rows.occurrenceDisplacesRow.domain false) (Rows.occurrenceDisplacesSpec.post enc Try.prog Try.f6 false true false false) := by
 refine returnsInHanded_of_change_sized (C := Try.checked) own started (by kernel_rfl) Try.func6
  (ChangeSpec.witness6 (enc := enc) (C := Try.checked) false ⟨#[], #[.agg #[.int .i64 0, .slice none 0 0, .slice none 0 0], .int .i64 0, .int .i64 0], []⟩ 8 (by kernel_rfl) (by kernel_rfl) (by kernel_rfl) (by kernel_rfl)) ?_
 intro W base args ds gs before hval0 hW hcnd hsz0 _
 have hsz : (DataW.weightsEach Try.prog (Try.f6.params.toList ++ Rows.occurrenceDisplacesSpec.plain.varTypes Try.prog) (ds ++ gs)).all (· ≤ reachBytes) = true := hsz0
 have hval : ∀ (j : Nat) t v, Try.f6.params[j]? = some t → args[j]? = some v → Value.okWide Try.prog W .any base t v := hval0
 have hW' := hW
 obtain ⟨p, q, hA0, hV, rfl, hfz, hnd⟩ := hW
 have hA : DataW.TrodAll enc Try.prog W 0 (fun _ => true) true Try.f6.params.toList args.toList ds p := hA0
 rw [Try.params6] at hA hval hsz
 obtain ⟨v0, vs0, d0, ds0, p0, q0, hargs, rfl, rfl, h0, r0⟩ := trodAll_cons hA
 obtain ⟨v1, vs1, d1, ds1, p1, q1, rfl, rfl, rfl, h1, r1⟩ := trodAll_cons r0
 obtain ⟨v2, vs2, d2, ds2, p2, q2, rfl, rfl, rfl, h2, r2⟩ := trodAll_cons r1
 obtain ⟨rfl, rfl, rfl⟩ := trodAll_nil r2
 obtain rfl : args = #[v0, v1, v2] := by cases args; simp_all
 obtain ⟨rfl, rfl⟩ := trodVars_none hV
 have k0 := h0
 have lt0 : ∀ x ∈ p0, x.block < W.heap.size := by obtain ⟨m, hm⟩ := k0; exact DataW.trod_lt m _ _ _ hm
 obtain ⟨cs0, x0, rfl, hK0, hw0⟩ := open_struct Try.underlying36 op36 (hval 0 36 v0 rfl rfl) h0
 obtain ⟨A0_1, c0_1, A0_2, c0_2, rfl, hc0_1, hr0_1, hc0_2, hr0_2⟩ := k36_open hK0
 obtain ⟨a1, rfl, rfl, rfl, w1⟩ := open_int Try.underlying3 (hval 1 3 v1 rfl rfl) h1
 obtain ⟨a2, rfl, rfl, rfl, w2⟩ := open_int Try.underlying3 (hval 2 3 v2 rfl rfl) h2
 clear hA0 hval0 hsz0 hsz
 obtain ⟨k, hf⟩ := Pure.OccurrenceDisplaces x0.f0 x0.f1 x0.f2 a1 a2 hw0.1 hw0.2.1.1 hw0.2.1.2 hw0.2.2.1 hw0.2.2.2 w1 w2
 refine (Q.computuslaw21_OccurrenceDisplaces.calls (k := k) (w := W) (r := true) (hr0_1 := hr0_1) (hc0_1 := hc0_1) (hr0_2 := hr0_2) (hc0_2 := hc0_2) (h := hf)).mono fun e W' ⟨he, hd⟩ => ?_
 subst he
 have bel : Below W.heap.size W W' := hd
 exact ⟨_, rfl, _, _, _, [], _, [], hW', trodAll_mk1 (shut_bool Try.underlying4 _), (trodAll_cons_mk (Below.trod laidOut (by kernel_rfl) (of_decide_eq_true (by kernel_rfl)) k0 bel lt0) (trodAll_cons_mk (shut_int Try.underlying3 w1) (trodAll_cons_mk (shut_int Try.underlying3 w2) trodAll_mk0))), rfl, bel.frame _, fun h => by cases h⟩
theorem over : Rows.occurrenceDisplacesRow.holds Try.pinned (OpenSpec.ofChange Rows.occurrenceDisplacesSpec) :=
 OpenClaim.holds_of_wide 6 Try.f6 rfl rfl rfl rfl rfl rfl rfl ⟨rfl, rfl, rfl, rfl, rfl⟩ rfl rfl rfl rfl rfl (by kernel_rfl) Try.func6 (by kernel_rfl)
  (of_decide_eq_true (by kernel_rfl)) (by unfold Func.isWrapper; first | (rw [if_pos (by decide +kernel)]; kernel_rfl) | (rw [if_neg (by decide +kernel)]; exact ⟨rfl, rfl⟩))
  (fun os started H enc _ => lifted os started H enc)
theorem proved : Rows.OccurrenceDisplacesSaid := over
#print axioms proved
end Go.Proofs.Ytopfjjdkffdjpaa.occurrenceDisplaces
namespace Go.Proofs.Ytopfjjdkffdjpaa
theorem occurrenceDisplaces_holds : Rows.OccurrenceDisplacesSaid := occurrenceDisplaces.proved
end Go.Proofs.Ytopfjjdkffdjpaa
end
