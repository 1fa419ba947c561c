/- What is proved: the reference's functions of layer 7, as plain functions. -/
import Derived.Test.YtepmkfbhkifjaaaDoorQx7
import Derived.Test.YtepmkfbhkifjaaaDoorQx8
import Derived.Test.YtepmkfbhkifjaaaDoorQx5
import Derived.Test.YtepmkfbhkifjaaaDoorQx4
import Derived.Test.YtepmkfbhkifjaaaDoorQx2
import Derived.Test.YtepmkfbhkifjaaaDoorHEpOf
namespace Go.Proofs.YtepmkfbhkifjaaaDoor.Q
open Go.RowKit Go.Proofs.YtepmkfbhkifjaaaDoorW.PrintWords Go.Proofs.YtepmkfbhkifjaaaDoorW.PrintLast Go.Proofs.YtepmkfbhkifjaaaDoorW.PrintMore
set_option linter.unusedVariables false
set_option linter.unusedSimpArgs false

theorem wr (n : Int) (h : -9223372036854775808 ≤ n ∧ n ≤ 9223372036854775807) : wrap64 n = n := by unfold wrap64; omega
theorem awake_ok : computuslaw07_awake.f = some true := by decide +kernel
/-- The years of a calendar. -/
def okYear (c y : Int) : Prop := (if c = 1 then 1 else 1583) ≤ y ∧ y ≤ 1000000000
instance (c y : Int) : Decidable (okYear c y) := by unfold okYear; infer_instance
def failsI (c y : Int) : Int := if c = 1 ∨ c = 2 then (if okYear c y then 0 else 1) else 3
theorem fails_ev (c y : Int) : Ev (fun k => computusref07_Fails.f k c y) (failsI c y) := by
  have hin : computusref02_In.f y = some (decide (1 ≤ y ∧ y ≤ 1000000000)) := by
    unfold computusref02_In.f
    by_cases h : y ≥ 1
    · rw [if_pos h]; congr 1; rw [decide_eq_decide]; omega
    · rw [if_neg h, decide_eq_false (by omega)]
  have hgr : computusref06_InGregorian.f y = some (decide (1583 ≤ y ∧ y ≤ 1000000000)) := by
    unfold computusref06_InGregorian.f
    by_cases h : y ≥ 1583
    · rw [if_pos h]; congr 1; rw [decide_eq_decide]; omega
    · rw [if_neg h, decide_eq_false (by omega)]
  unfold computusref07_Fails.f failsI okYear
  by_cases h1 : c < 1
  · refine Ev.congr (fun k => by rw [if_pos h1]) (Ev.step (fun k => ?_) (Ev.now _))
    simp only [computusref07_Fails.j0]
    rw [if_pos trivial, if_neg (by omega)]
  · by_cases h2 : c > 2
    · refine Ev.congr (fun k => by rw [if_neg h1, decide_eq_true h2]) (Ev.step (fun k => ?_) (Ev.now _))
      simp only [computusref07_Fails.j0]
      rw [if_pos trivial, if_neg (by omega)]
    · refine Ev.congr (fun k => by rw [if_neg h1, decide_eq_false h2]) (Ev.step (fun k => ?_) (Ev.now _))
      simp only [computusref07_Fails.j0]
      rw [if_neg (by simp), hin, hgr]
      simp only [Option.bind_some]
      by_cases h3 : c = 1
      · subst h3
        simp
        split <;> rfl
      · have h4 : c = 2 := by omega
        subst h4
        simp
        split <;> rfl

section
variable {y : Int} (h0 : 1 ≤ y) (h1 : y ≤ 1000000000)
include h0 h1
theorem rGolden : computusref06_Golden.f y = some (y % 19 + 1) := by
  unfold computusref06_Golden.f
  rw [Int.tdiv_eq_ediv_of_nonneg (by omega), wr (y / 19) (by omega), wr (19 * (y / 19)) (by omega), wr (y - 19 * (y / 19)) (by omega), wr _ (by omega)]
  congr 2
  omega
theorem rCentury : computusref06_Century.f y = some (y / 100 + 1) := by
  unfold computusref06_Century.f
  rw [Int.tdiv_eq_ediv_of_nonneg (by omega), wr (y / 100) (by omega), wr _ (by omega)]
theorem rLunar : computusref06_Lunar.f y = some ((8 * (y / 100 + 1) + 5) / 25 - 5) := by
  unfold computusref06_Lunar.f
  rw [rCentury h0 h1]
  simp only [Option.bind_some]
  rw [wr (8 * (y / 100 + 1)) (by omega), wr (8 * (y / 100 + 1) + 5) (by omega), Int.tdiv_eq_ediv_of_nonneg (by omega), wr ((8 * (y / 100 + 1) + 5) / 25) (by omega), wr _ (by omega)]
theorem rSolar : computusref06_Solar.f y = some (3 * (y / 100 + 1) / 4 - 12) := by
  unfold computusref06_Solar.f
  rw [rCentury h0 h1]
  simp only [Option.bind_some]
  rw [wr (3 * (y / 100 + 1)) (by omega), Int.tdiv_eq_ediv_of_nonneg (by omega), wr (3 * (y / 100 + 1) / 4) (by omega), wr _ (by omega)]
end
theorem rMod (n : Int) (h : -100000000 ≤ n ∧ n ≤ 100000000) : computusref01_Mod.f n 30 = some (n % 30) := by
  have hd := Int.tmod_def n 30
  have h2 := Int.tmod_lt_of_pos n (b := 30) (by omega)
  have h3 := Int.lt_tmod_of_pos n (b := 30) (by omega)
  have hs := Int.tmod_nonneg (a := n) 30
  have ht : n < 0 → n.tmod 30 ≤ 0 := fun h => by
    have h4 := Int.tmod_nonneg (a := -n) 30 (by omega)
    rw [Int.neg_tmod] at h4
    omega
  unfold computusref01_Mod.f computusref01_Div.f
  rw [if_neg (by omega), wr (n.tdiv 30) (by omega), wr (n.tdiv 30 * 30) (by omega)]
  by_cases he : n.tdiv 30 * 30 = n
  · rw [if_pos he]
    simp only [Option.bind_some]
    rw [wr (30 * n.tdiv 30) (by omega), wr _ (by omega)]
    congr 1; omega
  · rw [if_neg he]
    by_cases hn : n < 0
    · rw [decide_eq_true hn, decide_eq_false (by omega), if_pos (by decide)]
      simp only [Option.bind_some]
      have := ht hn
      rw [wr (n.tdiv 30 - 1) (by omega), wr (30 * (n.tdiv 30 - 1)) (by omega), wr _ (by omega)]
      congr 1; omega
    · rw [decide_eq_false hn, decide_eq_false (by omega), if_neg (by decide)]
      simp only [Option.bind_some]
      have := hs (by omega)
      rw [wr (30 * n.tdiv 30) (by omega), wr _ (by omega)]
      congr 1; omega
/-- The number that is congruent to the epact. -/
def nOf (c y : Int) : Int := if c = 1 then 11 * (y % 19 + 1) - 3 else 11 * (y % 19 + 1) + 20 + ((8 * (y / 100 + 1) + 5) / 25 - 5) - (3 * (y / 100 + 1) / 4 - 12)
theorem okYear_le {c y : Int} (hc : c = 1 ∨ c = 2) (h : okYear c y) : 1 ≤ y ∧ y ≤ 1000000000 ∧ (c = 2 → 1583 ≤ y) := by
  unfold okYear at h
  rcases hc with rfl | rfl
  · rw [if_pos rfl] at h; omega
  · rw [if_neg (by omega)] at h; omega
theorem nOf_le (c y : Int) (h : 1 ≤ y ∧ y ≤ 1000000000) : -20000000 ≤ nOf c y ∧ nOf c y ≤ 20000000 := by unfold nOf; split <;> omega
theorem epNum_ok {c y : Int} (hc : c = 1 ∨ c = 2) (h : okYear c y) : epNum c y = (nOf c y, 0) := by
  obtain ⟨h1, h2, h3⟩ := okYear_le hc h
  unfold epNum nOf
  have i1 : ∀ v, inYear 1 y v = (v, 0) := fun v => by unfold inYear; rw [if_pos ⟨h1, h2⟩]
  rw [i1, i1]
  rcases hc with rfl | rfl
  · rw [if_pos rfl, if_pos rfl]
  · have i2 : ∀ v, inYear 1583 y v = (v, 0) := fun v => by unfold inYear; rw [if_pos ⟨h3 rfl, h2⟩]
    rw [if_neg (by omega), if_neg (by omega), i2, i2, i2]
theorem epNum_no {c y : Int} (hc : c = 1 ∨ c = 2) (h : ¬ okYear c y) : (epNum c y).2 = 1 := by
  unfold okYear at h
  unfold epNum
  rcases hc with rfl | rfl
  · rw [if_pos rfl] at h ⊢
    show (inYear 1 y 0).2 = 1
    unfold inYear; rw [if_neg (show ¬ (1 ≤ y ∧ y ≤ 1000000000) from h)]
  · rw [if_neg (by omega)] at h ⊢
    show (inYear 1583 y 0).2 = 1
    unfold inYear; rw [if_neg h]
/-- The epact. -/
def eOf (c y : Int) : Int := (nOf c y - 1) % 30 + 1
def lOf (c y : Int) : Int := if eOf c y = 25 ∧ 11 < y % 19 + 1 then 31 else eOf c y
theorem epOf_ok {c y : Int} (hc : c = 1 ∨ c = 2) (h : okYear c y) : epOf c y = (eOf c y, 0) := by
  unfold epOf
  rw [if_pos hc, epNum_ok hc h, if_pos rfl]
  rfl
theorem epLabel_ok {c y : Int} (hc : c = 1 ∨ c = 2) (h : okYear c y) : epLabel c y = (lOf c y, 0) := by
  obtain ⟨h1, h2, h3⟩ := okYear_le hc h
  have i1 : ∀ v, inYear 1 y v = (v, 0) := fun v => by unfold inYear; rw [if_pos ⟨h1, h2⟩]
  unfold epLabel lOf
  rw [epOf_ok hc h, i1, if_pos rfl]
  split <;> rfl
theorem epOf_no {c y : Int} (h : failsI c y ≠ 0) : epOf c y = (0, failsI c y) ∧ epLabel c y = (0, failsI c y) := by
  have h1 : epOf c y = (0, failsI c y) := by
    unfold epOf
    by_cases hc : c = 1 ∨ c = 2
    · have hy : ¬ okYear c y := fun hy => h (by unfold failsI; rw [if_pos hc, if_pos hy])
      have hf : failsI c y = 1 := by unfold failsI; rw [if_pos hc, if_neg hy]
      rw [if_pos hc, epNum_no hc hy, if_neg (by omega), hf]
    · have hf : failsI c y = 3 := by unfold failsI; rw [if_neg hc]
      rw [if_neg hc, hf]
  refine ⟨h1, ?_⟩
  unfold epLabel
  rw [h1, if_neg h]
theorem fails_zero {c y : Int} (h : failsI c y = 0) : (c = 1 ∨ c = 2) ∧ okYear c y := by
  unfold failsI at h
  by_cases hc : c = 1 ∨ c = 2
  · rw [if_pos hc] at h
    by_cases hy : okYear c y
    · exact ⟨hc, hy⟩
    · rw [if_neg hy] at h; omega
  · rw [if_neg hc] at h; omega
theorem rOf {c y : Int} (hc : c = 1 ∨ c = 2) (h : okYear c y) : computusref07_Of.f c y = some (eOf c y) := by
  obtain ⟨h1, h2, h3⟩ := okYear_le hc h
  have hb := nOf_le c y ⟨h1, h2⟩
  unfold computusref07_Of.f
  rw [rGolden h1 h2]
  simp only [Option.bind_some]
  have hfin : ∀ t : Int, t = nOf c y % 30 → (if t = 0 then some 30 else some t) = some (eOf c y) := by
    intro t ht
    unfold eOf
    split
    · congr 1; omega
    · congr 1; omega
  rcases hc with rfl | rfl
  · rw [if_neg (by omega), wr (11 * (y % 19 + 1)) (by omega), wr _ (by omega), rMod _ (by omega)]
    simp only [Option.bind_some]
    exact hfin _ (by unfold nOf; rw [if_pos rfl])
  · rw [if_pos rfl, rLunar h1 h2, rSolar h1 h2]
    simp only [Option.bind_some]
    rw [wr (11 * (y % 19 + 1)) (by omega), wr (11 * (y % 19 + 1) + 20) (by omega), wr (11 * (y % 19 + 1) + 20 + _) (by omega), wr _ (by omega), rMod _ (by omega)]
    simp only [Option.bind_some]
    exact hfin _ (by unfold nOf; rw [if_neg (by omega)])
theorem rLabel {c y : Int} (hc : c = 1 ∨ c = 2) (h : okYear c y) : computusref07_Label.f c y = some (lOf c y) := by
  obtain ⟨h1, h2, h3⟩ := okYear_le hc h
  unfold computusref07_Label.f lOf
  rw [rOf hc h]
  simp only [Option.bind_some]
  by_cases h25 : eOf c y = 25
  · rw [if_pos h25, rGolden h1 h2]
    simp only [Option.bind_some]
    by_cases hg : y % 19 + 1 > 11
    · rw [if_pos hg, if_pos ⟨h25, hg⟩]
    · rw [if_neg hg, if_neg (fun h => hg h.2)]
  · rw [if_neg h25, if_neg (fun h => h25 h.1)]
theorem eOf_range (c y : Int) : 1 ≤ eOf c y ∧ eOf c y ≤ 30 := by unfold eOf; omega
theorem lOf_range (c y : Int) : 1 ≤ lOf c y ∧ lOf c y ≤ 31 := by unfold lOf; have := eOf_range c y; split <;> omega
/-- The label tells the epact. -/
theorem lOf_eOf (c y : Int) : eOf c y = if lOf c y = 31 then 25 else lOf c y := by
  have := eOf_range c y
  unfold lOf
  split
  · rename_i h; rw [if_pos rfl]; exact h.1
  · rw [if_neg (by omega)]

/-! ### names -/
theorem name_small : ∀ n : Nat, n < 30 → 1 ≤ n → computusref07_Name.j0 1 (n : Int) false = some (epName (n : Int)) := by decide +kernel
theorem rName (l : Int) : Ev (fun k => computusref07_Name.f k l) (epName l) := by
  unfold computusref07_Name.f
  by_cases h31 : l = 31
  · subst h31
    exact Ev.congr (fun k => by rfl) (Ev.now _)
  · by_cases h30 : l = 30
    · subst h30
      exact Ev.congr (fun k => by rfl) (Ev.now _)
    · by_cases h1 : l < 1
      · refine Ev.congr (fun k => by rw [if_neg h31, if_neg h30, if_pos h1]) (Ev.step (fun k => ?_) (Ev.now _))
        simp only [computusref07_Name.j0]
        rw [if_pos trivial]
        unfold epName
        rw [if_neg h31, if_neg h30, if_neg (by omega)]
      · by_cases h2 : l > 31
        · refine Ev.congr (fun k => by rw [if_neg h31, if_neg h30, if_neg h1, decide_eq_true h2]) (Ev.step (fun k => ?_) (Ev.now _))
          simp only [computusref07_Name.j0]
          rw [if_pos trivial]
          unfold epName
          rw [if_neg h31, if_neg h30, if_neg (by omega)]
        · obtain ⟨n, rfl⟩ : ∃ n : Nat, l = (n : Int) := ⟨l.toNat, by omega⟩
          have h3 := name_small n (by omega) (by omega)
          refine Ev.congr (fun k => by rw [if_neg h31, if_neg h30, if_neg h1, decide_eq_false h2]) (Ev.step (fun k => ?_) (Ev.now _))
          rw [← h3]
          rfl
theorem names_apartB : ((List.range 32).all fun a => (List.range 32).all fun b => a == 0 || b == 0 || (!((epName ((a : Nat) : Int)).toList == []) && (!((epName ((a : Nat) : Int)).toList == (epName ((b : Nat) : Int)).toList) || a == b))) = true := by decide +kernel
theorem names_apart (a : Nat) (ha : a < 32) (b : Nat) (hb : b < 32) (ha1 : 1 ≤ a) (hb1 : 1 ≤ b) : (epName (a : Int)).toList ≠ [] ∧ ((epName (a : Int)).toList = (epName (b : Int)).toList → a = b) := by
  have h := List.all_eq_true.1 (List.all_eq_true.1 names_apartB a (List.mem_range.2 ha)) b (List.mem_range.2 hb)
  have e1 : (a == 0) = false := by rw [beq_eq_false_iff_ne]; omega
  have e2 : (b == 0) = false := by rw [beq_eq_false_iff_ne]; omega
  rw [e1, e2, Bool.false_or, Bool.false_or, Bool.and_eq_true] at h
  refine ⟨by simpa using h.1, fun he => ?_⟩
  have h2 := h.2
  rw [he, beq_self_eq_true, Bool.not_true, Bool.false_or, beq_iff_eq] at h2
  exact h2
theorem name_some {a : Int} (h : 1 ≤ a ∧ a ≤ 31) : (epName a).toList ≠ [] := by
  obtain ⟨n, rfl⟩ : ∃ n : Nat, a = (n : Int) := ⟨a.toNat, by omega⟩
  exact (names_apart n (by omega) 1 (by omega) (by omega) (by omega)).1
theorem name_none {a : Int} (h : ¬ (1 ≤ a ∧ a ≤ 31)) : (epName a).toList = [] := by
  unfold epName
  rw [if_neg (by omega), if_neg (by omega), if_neg (by omega)]
  decide +kernel
theorem name_inj {a b : Int} (ha : 1 ≤ a ∧ a ≤ 31) (hb : 1 ≤ b ∧ b ≤ 31) : (epName a).toList = (epName b).toList ↔ a = b := by
  obtain ⟨n, rfl⟩ : ∃ n : Nat, a = (n : Int) := ⟨a.toNat, by omega⟩
  obtain ⟨m, rfl⟩ : ∃ n : Nat, b = (n : Int) := ⟨b.toNat, by omega⟩
  constructor
  · intro h
    have := (names_apart n (by omega) m (by omega) (by omega) (by omega)).2 h
    omega
  · intro h; rw [h]
/-- A calendar's number out of a byte. -/
theorem calNo {a : Int} (h : (Lit.int .u8 a).wf = true) : ∃ c : Int, (c = 1 ∨ c = 2) ∧ wrap64 (1 + wrap64 (Int.tmod a 2)) = c ∧ (-9223372036854775808 ≤ c ∧ c ≤ 9223372036854775807) := by
  have h2 : 0 ≤ a ∧ a ≤ 255 := by
    have h := h
    simp [Lit.wf] at h
    have e1 : IntKind.u8.min = 0 := by decide
    have e2 : IntKind.u8.max = 255 := by decide
    omega
  rw [Int.tmod_eq_emod_of_nonneg h2.1, wr (a % 2) (by omega), wr _ (by omega)]
  exact ⟨1 + a % 2, by omega, rfl, by omega⟩
theorem wf64 {a : Int} (h : (Lit.int .i64 a).wf = true) : -9223372036854775808 ≤ a ∧ a ≤ 9223372036854775807 := by
  simp [Lit.wf] at h
  have e1 : IntKind.i64.min = -9223372036854775808 := by decide
  have e2 : IntKind.i64.max = 9223372036854775807 := by decide
  omega
end Go.Proofs.YtepmkfbhkifjaaaDoor.Q
