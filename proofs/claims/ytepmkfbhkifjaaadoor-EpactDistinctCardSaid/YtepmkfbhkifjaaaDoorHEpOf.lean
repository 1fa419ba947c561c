/- What is proved: epact.Of, Label and Name answer what plain functions tell. -/
import Derived.Test.YtepmkfbhkifjaaaDoorHEpact
namespace Go.Proofs.YtepmkfbhkifjaaaDoor.Q
open Go.RowKit Go.Proofs.YtepmkfbhkifjaaaDoorW.PrintWords Go.Proofs.YtepmkfbhkifjaaaDoorW.PrintLast Go.Proofs.YtepmkfbhkifjaaaDoorW.PrintMore
set_option linter.unusedVariables false
set_option linter.unusedSimpArgs false

def epOf (c y : Int) : Int × Int := if c = 1 ∨ c = 2 then (if (epNum c y).2 = 0 then (((epNum c y).1 - 1) % 30 + 1, 0) else (0, (epNum c y).2)) else (0, 3)
theorem epNum_le (c y : Int) : -20000000 ≤ (epNum c y).1 ∧ (epNum c y).1 ≤ 20000000 := by
  have hb := inYear_le (k := 1) (y := y) (v := y % 19 + 1) (m := 19) (fun _ _ => by omega) (by omega)
  have hc := inYear_le (k := 1583) (y := y) (v := 3 * (y / 100 + 1) / 4 - 12) (m := 10000000) (fun _ _ => by omega) (by omega)
  have hd := inYear_le (k := 1583) (y := y) (v := (8 * (y / 100 + 1) + 5) / 25 - 5) (m := 10000000) (fun _ _ => by omega) (by omega)
  unfold epNum
  split
  · show -20000000 ≤ 11 * (inYear 1 y (y % 19 + 1)).1 - 3 ∧ _
    omega
  · show -20000000 ≤ 11 * (inYear 1 y (y % 19 + 1)).1 + 20 + (inYear 1583 y ((8 * (y / 100 + 1) + 5) / 25 - 5)).1 - (inYear 1583 y (3 * (y / 100 + 1) / 4 - 12)).1 ∧ _
    omega
theorem tmod30 (m : Int) : -30 < m.tmod 30 ∧ m.tmod 30 < 30 ∧ m.tmod 30 % 30 = m % 30 := by
  have h1 := Int.tmod_lt_of_pos m (b := 30) (by omega)
  have h2 := Int.lt_tmod_of_pos m (b := 30) (by omega)
  have h3 := Int.tmod_def m 30
  exact ⟨h2, h1, by omega⟩

theorem ep_hit (w : World) (c : Int) (hc : c = 1 ∨ c = 2) : (Instr.lookup 35 (.map (some w.heap.size)) (.int .i64 c) true).run Tryd.prog (w.alloc epMap) = .ok (.tuple #[.func (.func (if c = 1 then 26 else 27)) #[] #[], .bool true]) (w.alloc epMap) := by
  have hk : ∀ x : Int, (Lit.int .i64 x).wf = true → keyOf Tryd.prog 3 (.int .i64 x) = some (.int .i64 x) := fun x h => Maps.keyOf_int_mk Tryd.underlying3 h
  refine run_hit (Maps.int_keyed Tryd.underlying3) Tryd.underlying35 (map_get w epMap) _ _ (hk c (by rcases hc with rfl | rfl <;> decide)) ?_ ?_ ?_
  · intro e he
    simp at he
    rcases he with rfl | rfl
    · exact ⟨_, hk 1 (by decide)⟩
    · exact ⟨_, hk 2 (by decide)⟩
  · intro e he hx
    simp at he
    rcases he with rfl | rfl
    · injection hx with _ hx; rw [if_pos hx.symm]
    · injection hx with _ hx; rw [if_neg (by omega)]
  · rcases hc with rfl | rfl
    · exact ⟨_, by simp; exact .inl rfl, rfl⟩
    · exact ⟨_, by simp; exact .inr rfl, rfl⟩
theorem ep_miss (w : World) (c : Int) (hw : (Lit.int .i64 c).wf = true) (hc : ¬ (c = 1 ∨ c = 2)) : (Instr.lookup 35 (.map (some w.heap.size)) (.int .i64 c) true).run Tryd.prog (w.alloc epMap) = .ok (.tuple #[.nilFunc, .bool false]) (w.alloc epMap) := by
  have hk : ∀ x : Int, (Lit.int .i64 x).wf = true → keyOf Tryd.prog 3 (.int .i64 x) = some (.int .i64 x) := fun x h => Maps.keyOf_int_mk Tryd.underlying3 h
  refine run_miss (Maps.int_keyed Tryd.underlying3) Tryd.underlying35 (map_get w epMap) _ _ (hk c hw) ?_ ?_ (by kernel_rfl)
  · intro e he
    simp at he
    rcases he with rfl | rfl
    · exact ⟨_, hk 1 (by decide)⟩
    · exact ⟨_, hk 2 (by decide)⟩
  · intro e he hx
    simp at he
    rcases he with rfl | rfl
    · injection hx with _ hx; omega
    · injection hx with _ hx; omega

theorem wf_of (c : Int) (h : -9223372036854775808 ≤ c ∧ c ≤ 9223372036854775807) : (Lit.int .i64 c).wf = true := WalkArith.wf_i64 (by omega)

def epact_Of.f (a0 a1 : Int) : Option (Int × Int) := if -9223372036854775808 ≤ a0 ∧ a0 ≤ 9223372036854775807 then some (epOf a0 a1) else none
set_option maxHeartbeats 4000000 in
set_option maxRecDepth 100000 in
theorem epOf_any (w : World) (c y : Int) (hw : (Lit.int .i64 c).wf = true) : Calls Tryd.prog 9 #[.int .i64 c, .int .i64 y] w fun e w' => e = .returned (.tuple #[.int .i64 (epOf c y).1, .int .i64 (epOf c y).2]) ∧ Below w.heap.size w w' := by
  have HB := Aside0.mk (show Below w.heap.size w (w.alloc epMap) from (Below.refl _ _).alloc (Nat.le_refl _) _)
  unfold epOf
  by_cases hc : c = 1 ∨ c = 2
  · rw [if_pos hc]
    have hl := ep_hit w c hc
    have hcall : Aside0 (∀ W, Calls Tryd.prog (if c = 1 then 26 else 27) #[.int .i64 y] W fun e w' => e = .returned (.tuple #[.int .i64 (epNum c y).1, .int .i64 (epNum c y).2]) ∧ w' = W) := by
      rcases hc with rfl | rfl
      · exact ⟨fun W => epJulian_any W y⟩
      · exact ⟨fun W => epGregorian_any W y⟩
    have hcf : ∀ (args : Array Value) (W : World), (callFunc (if c = 1 then 26 else 27) args).run Tryd.prog W = .ok (.enter (if c = 1 then 26 else 27) args) W := by
      rcases hc with rfl | rfl
      · exact fun _ _ => rfl
      · exact fun _ _ => rfl
    obtain ⟨hn0, hn1⟩ := epNum_le c y
    obtain ⟨f, hf⟩ : ∃ f, f = (if c = 1 then 26 else 27) := ⟨_, rfl⟩
    obtain ⟨n, hn⟩ : ∃ n, n = (epNum c y).1 := ⟨_, rfl⟩
    obtain ⟨r, hr⟩ : ∃ r, r = (epNum c y).2 := ⟨_, rfl⟩
    rw [← hf] at hl hcall hcf
    rw [← hn, ← hr] at hcall
    rw [← hn] at hn0 hn1
    rw [← hn, ← hr]
    obtain ⟨t0, t1, t2⟩ := tmod30 (n - 1)
    have T2 := Aside0.mk t2
    clear hf hn hr hc t2
    by_cases h0 : r = 0
    · subst h0
      rw [if_pos rfl]
      go_enter Tryd.func9, Tryd.ntmps9
      go_wp2_with (first | (go_at_call 18; refine (formulas_any _).mono ?_; rintro e w1 ⟨rfl, rfl⟩) | (refine (hcall.out _).mono ?_; rintro e w1 ⟨rfl, rfl⟩))
      go_ret2
      exact ⟨by show Ending.returned (.tuple #[.int .i64 ((n - 1).tmod 30 % 30 + 1), .int .i64 0]) = _; rw [T2.out], HB.out⟩
    · rw [if_neg h0]
      have h1 : (r != 0) = true := bne_iff_ne.mpr h0
      clear h0
      go_enter Tryd.func9, Tryd.ntmps9
      go_wp2_with (first | (go_at_call 18; refine (formulas_any _).mono ?_; rintro e w1 ⟨rfl, rfl⟩) | (refine (hcall.out _).mono ?_; rintro e w1 ⟨rfl, rfl⟩))
      go_ret2
      exact ⟨rfl, HB.out⟩
  · rw [if_neg hc]
    have hl := ep_miss w c hw hc
    clear hc
    go_enter Tryd.func9, Tryd.ntmps9
    go_wp2_with (go_at_call 18; refine (formulas_any _).mono ?_; rintro e w1 ⟨rfl, rfl⟩)
    go_ret2
    exact ⟨rfl, HB.out⟩
theorem epact_Of.calls (a0 a1 r1 r2 : Int) (w : World) (h : epact_Of.f a0 a1 = some (r1, r2)) : Calls Tryd.prog 9 #[.int .i64 a0, .int .i64 a1] w fun e w' => e = .returned (.tuple #[.int .i64 r1, .int .i64 r2]) ∧ Below w.heap.size w w' := by
  unfold epact_Of.f at h
  by_cases hc : -9223372036854775808 ≤ a0 ∧ a0 ≤ 9223372036854775807
  · rw [if_pos hc, Option.some.injEq] at h
    have := epOf_any w a0 a1 (wf_of a0 hc)
    rwa [h] at this
  · rw [if_neg hc] at h
    exact absurd h (by simp)

def epLabel (c y : Int) : Int × Int := if (epOf c y).2 = 0 then (if (epOf c y).1 = 25 ∧ 11 < (inYear 1 y (y % 19 + 1)).1 then (31, 0) else ((epOf c y).1, 0)) else (0, (epOf c y).2)
def epact_Label.f (a0 a1 : Int) : Option (Int × Int) := if -9223372036854775808 ≤ a0 ∧ a0 ≤ 9223372036854775807 then some (epLabel a0 a1) else none
set_option maxHeartbeats 4000000 in
set_option maxRecDepth 100000 in
theorem epLabel_any (w : World) (c y : Int) (hw : (Lit.int .i64 c).wf = true) : Calls Tryd.prog 10 #[.int .i64 c, .int .i64 y] w fun e w' => e = .returned (.tuple #[.int .i64 (epLabel c y).1, .int .i64 (epLabel c y).2]) ∧ Below w.heap.size w w' := by
  have HO := Aside0.mk (epOf_any w c y hw)
  unfold epLabel
  have HG := Aside0.mk (fun W => golden_any W y)
  obtain ⟨g, hg⟩ : ∃ g, g = inYear 1 y (y % 19 + 1) := ⟨_, rfl⟩
  obtain ⟨r, hr⟩ : ∃ r, r = epOf c y := ⟨_, rfl⟩
  rw [← hr] at HO
  rw [← hg] at HG
  rw [← hg, ← hr]
  clear hg hr hw
  obtain ⟨e, r⟩ := r
  obtain ⟨g, gr⟩ := g
  by_cases h0 : r = 0
  · subst h0
    simp only [if_true]
    by_cases h1 : e = 25
    · subst h1
      by_cases h2 : 11 < g
      · rw [if_pos ⟨rfl, h2⟩]
        go_enter Tryd.func10, Tryd.ntmps10
        go_wp2_with (first | (go_at_call 9; refine Calls.mono HO.out ?_; rintro e w1 ⟨rfl, hb⟩; have HB := Aside0.mk hb; clear hb HO) | (go_at_call 19; refine (HG.out _).mono ?_; rintro e w2 ⟨rfl, rfl⟩))
        go_ret2
        exact ⟨rfl, HB.out⟩
      · rw [if_neg (fun h => h2 h.2)]
        have h3 : decide (11 < g) = false := decide_eq_false h2
        clear h2
        go_enter Tryd.func10, Tryd.ntmps10
        go_wp2_with (first | (go_at_call 9; refine Calls.mono HO.out ?_; rintro e w1 ⟨rfl, hb⟩; have HB := Aside0.mk hb; clear hb HO) | (go_at_call 19; refine (HG.out _).mono ?_; rintro e w2 ⟨rfl, rfl⟩))
        go_ret2
        exact ⟨rfl, HB.out⟩
    · rw [if_neg (fun h => h1 h.1)]
      have h3 : (e == 25) = false := by simpa using h1
      clear h1
      go_enter Tryd.func10, Tryd.ntmps10
      go_wp2_with (first | (go_at_call 9; refine Calls.mono HO.out ?_; rintro e w1 ⟨rfl, hb⟩; have HB := Aside0.mk hb; clear hb HO) | (go_at_call 19; refine (HG.out _).mono ?_; rintro e w2 ⟨rfl, rfl⟩))
      go_ret2
      exact ⟨rfl, HB.out⟩
  · rw [if_neg h0]
    have h1 : (r != 0) = true := bne_iff_ne.mpr h0
    clear h0
    go_enter Tryd.func10, Tryd.ntmps10
    go_wp2_with (first | (go_at_call 9; refine Calls.mono HO.out ?_; rintro e w1 ⟨rfl, hb⟩; have HB := Aside0.mk hb; clear hb HO))
    go_ret2
    exact ⟨rfl, HB.out⟩
theorem epact_Label.calls (a0 a1 r1 r2 : Int) (w : World) (h : epact_Label.f a0 a1 = some (r1, r2)) : Calls Tryd.prog 10 #[.int .i64 a0, .int .i64 a1] w fun e w' => e = .returned (.tuple #[.int .i64 r1, .int .i64 r2]) ∧ Below w.heap.size w w' := by
  unfold epact_Label.f at h
  by_cases hc : -9223372036854775808 ≤ a0 ∧ a0 ≤ 9223372036854775807
  · rw [if_pos hc, Option.some.injEq] at h
    have := epLabel_any w a0 a1 (wf_of a0 hc)
    rwa [h] at this
  · rw [if_neg hc] at h
    exact absurd h (by simp)

def epName (l : Int) : ByteArray := if l = 31 then ⟨#[50, 53, 39]⟩ else if l = 30 then ⟨#[42]⟩ else if 1 ≤ l ∧ l < 30 then ⟨(Lib.decDigits l.toNat).toArray⟩ else ⟨#[]⟩
def epact_Name.f (a0 : Int) : Option ByteArray := some (epName a0)
set_option maxHeartbeats 4000000 in
set_option maxRecDepth 100000 in
theorem epName_any (w : World) (l : Int) : Calls Tryd.prog 12 #[.int .i64 l] w fun e w' => e = .returned (.string (epName l)) ∧ w' = w := by
  unfold epName
  by_cases h31 : l = 31
  · subst h31
    go_enter Tryd.func12, Tryd.ntmps12
    go_wp2
    go_ret
    exact ⟨rfl, rfl⟩
  · rw [if_neg h31]
    by_cases h30 : l = 30
    · subst h30
      go_enter Tryd.func12, Tryd.ntmps12
      go_wp2
      go_ret
      exact ⟨rfl, rfl⟩
    · rw [if_neg h30]
      have b31 : (l == 31) = false := by simpa using h31
      have b30 : (l == 30) = false := by simpa using h30
      by_cases h : 1 ≤ l ∧ l < 30
      · rw [if_pos h]
        have HI := Aside0.mk (fun W => Tryd.strconv_Itoa_small l.toNat (by omega) W)
        have e : ((l.toNat : Nat) : Int) = l := by omega
        rw [e] at HI
        have h0 := h.1
        have h1 := h.2
        clear h h31 h30 e
        go_enter Tryd.func12, Tryd.ntmps12
        go_wp2_with (refine (HI.out _).mono ?_; rintro e w1 ⟨rfl, rfl⟩)
        go_ret
        exact ⟨rfl, rfl⟩
      · rw [if_neg h]
        by_cases h1 : 1 ≤ l
        · have h2 : ¬ l < 30 := fun h2 => h ⟨h1, h2⟩
          have b2 : decide (l < 30) = false := decide_eq_false h2
          have b1 : decide (1 ≤ l) = true := decide_eq_true h1
          clear h h31 h30 h1 h2
          go_enter Tryd.func12, Tryd.ntmps12
          go_wp2
          go_ret
          exact ⟨rfl, rfl⟩
        · have b1 : decide (1 ≤ l) = false := decide_eq_false h1
          clear h h31 h30 h1
          go_enter Tryd.func12, Tryd.ntmps12
          go_wp2
          go_ret
          exact ⟨rfl, rfl⟩
theorem epact_Name.calls (a0 : Int) (r : ByteArray) (w : World) (h : epact_Name.f a0 = some r) : Calls Tryd.prog 12 #[.int .i64 a0] w fun e w' => e = .returned (.string r) ∧ Below w.heap.size w w' := by
  unfold epact_Name.f at h
  rw [Option.some.injEq] at h
  subst h
  exact (epName_any w a0).mono fun e w' ⟨he, hw⟩ => by subst hw; exact ⟨he, Below.refl _ _⟩
end Go.Proofs.YtepmkfbhkifjaaaDoor.Q
