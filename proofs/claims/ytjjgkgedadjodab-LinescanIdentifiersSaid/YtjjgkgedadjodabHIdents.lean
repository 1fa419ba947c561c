/- What is proved: LinescanIdentifiers answers true. -/
import Derived.Test.YtjjgkgedadjodabPL3
import Derived.Test.YtjjgkgedadjodabHAwake25
namespace Go.Proofs.Ytjjgkgedadjodab.Q
open Go.RowKit Go.Proofs.YtjjgkgedadjodabW.PrintWords Go.Proofs.YtjjgkgedadjodabW.PrintLast Go.Proofs.YtjjgkgedadjodabW.PrintMore
set_option linter.unusedVariables false
set_option linter.unusedSimpArgs false

theorem idents_x (t : ByteArray) (h : t.size ≤ 100) : ∃ (a : ByteArray) (J : Nat) (bad : Bool), linescan_Scanner_Identifier.f (t ++ ⟨#[32]⟩) 0 false = some (a, t ++ ⟨#[32]⟩, (J : Int), bad) ∧ (bad = true → idB t = false) ∧ (bad = false → (a.toList == t.toList) = idB t) := by
  have e1 : (ByteArray.mk #[32]).size = 1 := rfl
  have hz : (t ++ ⟨#[32]⟩ : ByteArray).size = t.size + 1 := by rw [ByteArray.size_append, e1]
  have hb : ∀ i, i < t.size → bt (t ++ ⟨#[32]⟩) (i : Int) = bt t (i : Int) := fun i hi => bt_append_left hi
  have hl : bt (t ++ ⟨#[32]⟩) (t.size : Int) = 32 := by
    have := bt_append_right (a := t) (b := ⟨#[32]⟩) (i := 0) (by omega)
    rw [Nat.add_zero] at this
    rw [this]
    decide +kernel
  have hiff := id_space hz hb hl
  have hspec := ident_spec (s := t ++ ⟨#[32]⟩) (i := 0)
  obtain ⟨s, hs⟩ : ∃ s, s = t ++ (⟨#[32]⟩ : ByteArray) := ⟨_, rfl⟩
  rw [← hs] at hz hb hl hiff hspec ⊢
  refine ⟨if (scIdent s 0).1 then s.extract 0 (scIdent s 0).2 else ⟨#[]⟩, (scIdent s 0).2, !(scIdent s 0).1, ?_, ?_, ?_⟩
  · unfold linescan_Scanner_Identifier.f
    rw [if_neg (by simp), if_pos ⟨by omega, by omega, by omega⟩]
    rfl
  · intro hbad
    rw [← Bool.not_eq_true, idB_iff, hiff]
    intro h2
    rw [h2] at hbad
    exact absurd hbad (by simp)
  · intro hbad
    have hok : (scIdent s 0).1 = true := by simpa using hbad
    rw [if_pos hok, Bool.eq_iff_iff, idB_iff, hiff, beq_iff_eq, toList_eq_iff]
    rcases hspec with ⟨J, e, hJ, _⟩ | ⟨J, e, _⟩
    · rw [e]
      have hJ2 := hJ.2.1
      have hez : (s.extract 0 J).size = J := by simp; omega
      constructor
      · intro ⟨h2, _⟩
        show (true, J) = _
        rw [← h2, hez]
      · intro h2
        injection h2 with _ h2
        refine ⟨by rw [hez, h2], fun m hm => ?_⟩
        have hm2 : m < J := hez ▸ hm
        rw [bt_extract hJ2 (by omega), Nat.zero_add, hb m (by omega)]
    · rw [e] at hok
      exact absurd hok (by simp)
theorem idents_y (s : ByteArray) (h : s.size ≤ 1000) : (∃ J : Nat, linescan_Scanner_Identifier.f s 0 false = some (⟨#[]⟩, s, (J : Int), true)) ∨ ∃ b : ByteArray, linescan_Scanner_Identifier.f s 0 false = some (b, s, (b.size : Int), false) ∧ idB b = true ∧ b.size ≤ s.size ∧ ((s.extract 0 b.size).toList == b.toList) = true := by
  have hf : linescan_Scanner_Identifier.f s 0 false = some (if (scIdent s 0).1 then s.extract 0 (scIdent s 0).2 else ⟨#[]⟩, s, ((scIdent s 0).2 : Int), !(scIdent s 0).1) := by
    unfold linescan_Scanner_Identifier.f
    rw [if_neg (by simp), if_pos ⟨by omega, by omega, by omega⟩]
    rfl
  rw [hf]
  rcases ident_spec (s := s) (i := 0) with ⟨J, e, hJ, _⟩ | ⟨J, e, _⟩
  · refine .inr ⟨s.extract 0 J, ?_⟩
    have h2 := id_prefix hJ
    rw [e, idB_iff]
    refine ⟨?_, h2.2, by rw [h2.1]; exact hJ.2.1, by rw [h2.1]; exact beq_self_eq_true _⟩
    rw [h2.1]
    rfl
  · exact .inl ⟨J, by rw [e]; rfl⟩

def computuslaw25_LinescanIdentifiers.f (a0 : ByteArray) (a1 : ByteArray) : Option Bool := if a0.size ≤ 140737488351232 ∧ a1.size ≤ 140737488351232 then some true else none
set_option maxHeartbeats 4000000 in
set_option maxRecDepth 100000 in
theorem idents_big (a0 a1 : ByteArray) (w : World) (h0 : a0.size ≤ 140737488351232) (h1 : a1.size ≤ 140737488351232) (hb : ¬ (a0.size ≤ 100 ∧ a1.size ≤ 1000)) : Calls Try.prog 7 #[.string a0, .string a1] w fun e w' => e = .returned (.bool true) ∧ Below w.heap.size w w' := by
  by_cases hc : a0.size ≤ 100
  · have c1 : decide ((100 : Int) < (a0.size : Int)) = false := decide_eq_false (by omega)
    have c2 : decide ((1000 : Int) < (a1.size : Int)) = true := decide_eq_true (by omega)
    clear hb hc
    go_enter Try.func7, Try.ntmps7
    go_wp2_with fail
    refine (computuslaw25_awake.calls true _ rfl).mono ?_; rintro e w1 ⟨rfl, hb1⟩; have HB := Aside0.mk hb1; clear hb1
    go_wp2_with fail
    refine (computuslaw25_awake.calls true _ rfl).mono ?_; rintro e w2 ⟨rfl, hb1⟩; have HB2 := Aside0.mk (below_weaken HB.out HB.out.size hb1); clear hb1 HB
    go_wp2_with fail
    go_ret
    exact ⟨rfl, HB2.out⟩
  · have c1 : decide ((100 : Int) < (a0.size : Int)) = true := decide_eq_true (by omega)
    clear hb hc
    go_enter Try.func7, Try.ntmps7
    go_wp2_with fail
    refine (computuslaw25_awake.calls true _ rfl).mono ?_; rintro e w1 ⟨rfl, hb1⟩; have HB := Aside0.mk hb1; clear hb1
    go_wp2_with fail
    refine (computuslaw25_awake.calls true _ rfl).mono ?_; rintro e w2 ⟨rfl, hb1⟩; have HB2 := Aside0.mk (below_weaken HB.out HB.out.size hb1); clear hb1 HB
    go_wp2_with fail
    go_ret
    exact ⟨rfl, HB2.out⟩

set_option maxHeartbeats 4000000 in
set_option maxRecDepth 100000 in
theorem idents_small (a0 a1 : ByteArray) (w : World) (h0 : a0.size ≤ 100) (h1 : a1.size ≤ 1000) : Calls Try.prog 7 #[.string a0, .string a1] w fun e w' => e = .returned (.bool true) ∧ Below w.heap.size w w' := by
  obtain ⟨a, J, bad, hf, hx1, hx2⟩ := idents_x a0 h0
  have HF := Aside0.mk hf
  have HY := Aside0.mk (idents_y a1 h1)
  obtain ⟨k1, hk1⟩ := (id_ev a0).rounds
  have HK1 := Aside0.mk hk1
  have c1 : decide ((100 : Int) < (a0.size : Int)) = false := decide_eq_false (by omega)
  have c2 : decide ((1000 : Int) < (a1.size : Int)) = false := decide_eq_false (by omega)
  clear hf hk1
  obtain ⟨B, hB⟩ : ∃ B, B = idB a0 := ⟨_, rfl⟩
  rw [← hB] at HK1 hx1 hx2
  have HX : Aside0 (if bad then B = false else (a.toList == a0.toList) = B) := ⟨by cases bad <;> simp_all⟩
  clear hx1 hx2 hB
  have HM := Aside0.mk (fun w1 : World => Two.made w1 (a0 ++ ⟨#[32]⟩) a1)
  go_enter Try.func7, Try.ntmps7
  go_wp2_with fail
  refine (computuslaw25_awake.calls true _ rfl).mono ?_; rintro e w1 ⟨rfl, hb1⟩; have HB := Aside0.mk hb1; clear hb1
  go_wp2_with fail
  refine (new_any _ _).mono ?_; rintro e w2 ⟨rfl, rfl⟩
  go_wp2_with fail
  refine (new_any _ _).mono ?_; rintro e w2 ⟨rfl, rfl⟩
  have H0 := Aside0.mk (HM.out w1)
  obtain ⟨W, hW⟩ : ∃ W, W = (w1.alloc (.cells #[.string (a0 ++ ⟨#[32]⟩), .int .i64 0, .bool false] 77)).alloc (.cells #[.string a1, .int .i64 0, .bool false] 77) := ⟨_, rfl⟩
  rw [← hW] at H0
  rw [← hW]
  clear hW HM
  go_wp2_with fail
  refine Calls.mono (H0.out.ident HF.out) ?_; rintro e w3 ⟨rfl, h2⟩; have H1 := Aside0.mk h2; clear H0 h2 HF
  go_wp2_with fail
  refine (computusref17_Identifier.calls k1 a0 B _ HK1.out).mono ?_; rintro e w4 ⟨rfl, n, rfl⟩; have H2 := Aside0.mk (H1.out.drewN n); clear H1 HK1
  obtain ⟨W2, hW2⟩ : ∃ W2, W2 = w3.drewN n := ⟨_, rfl⟩
  rw [← hW2] at H2
  rw [← hW2]
  clear hW2
  go_wp2_with fail
  refine Calls.mono H2.out.err ?_; rintro e w5 ⟨rfl, rfl⟩
  have hcase : (bad = true ∧ B = false) ∨ (bad = false ∧ (a.toList == a0.toList) = B) := by
    have := HX.out
    cases bad
    · exact .inr ⟨rfl, by simpa using this⟩
    · exact .inl ⟨rfl, by simpa using this⟩
  clear HX
  rcases HY.out with ⟨J2, hy⟩ | ⟨b, hy, hb1, hb2, hb3⟩
  · have HY2 := Aside0.mk hy
    clear HY hy
    rcases hcase with ⟨rfl, rfl⟩ | ⟨rfl, hc⟩
    · go_wp2_with fail
      refine Calls.mono (H2.out.swap.ident HY2.out) ?_; rintro e w6 ⟨rfl, h2⟩; have H3 := Aside0.mk h2; clear H2 h2 HY2
      go_wp2_with fail
      refine Calls.mono H3.out.err ?_; rintro e w7 ⟨rfl, rfl⟩
      go_wp2_with fail
      go_ret
      exact ⟨rfl, below_weaken HB.out HB.out.size H3.out.B⟩
    · cases B <;> (
        go_wp2_with fail
        refine Calls.mono (H2.out.swap.ident HY2.out) ?_; rintro e w6 ⟨rfl, h2⟩; have H3 := Aside0.mk h2; clear H2 h2 HY2
        go_wp2_with fail
        refine Calls.mono H3.out.err ?_; rintro e w7 ⟨rfl, rfl⟩
        go_wp2_with fail
        go_ret
        exact ⟨rfl, below_weaken HB.out HB.out.size H3.out.B⟩)
  · have HY2 := Aside0.mk hy
    obtain ⟨k2, hk2⟩ := (id_ev b).rounds
    rw [hb1] at hk2
    have HK2 := Aside0.mk hk2
    have c3 : decide ((b.size : Int) ≤ (a1.size : Int)) = true := decide_eq_true (by omega)
    have c4 : decide (b.size ≤ a1.size) = true := decide_eq_true (by omega)
    clear HY hy hb1 hk2
    rcases hcase with ⟨rfl, rfl⟩ | ⟨rfl, hc⟩
    · go_wp2_with fail
      refine Calls.mono (H2.out.swap.ident HY2.out) ?_; rintro e w6 ⟨rfl, h2⟩; have H3 := Aside0.mk h2; clear H2 h2 HY2
      go_wp2_with fail
      refine Calls.mono H3.out.err ?_; rintro e w7 ⟨rfl, rfl⟩
      go_wp2_with fail
      refine (computusref17_Identifier.calls k2 b true _ HK2.out).mono ?_; rintro e w8 ⟨rfl, n2, rfl⟩; have H4 := Aside0.mk (H3.out.drewN n2); clear H3 HK2
      obtain ⟨W3, hW3⟩ : ∃ W3, W3 = w7.drewN n2 := ⟨_, rfl⟩
      rw [← hW3] at H4
      rw [← hW3]
      clear hW3
      go_wp2_with fail
      refine Calls.mono H4.out.offset ?_; rintro e w9 ⟨rfl, rfl⟩
      go_wp2_with fail
      go_ret
      exact ⟨rfl, below_weaken HB.out HB.out.size H4.out.B⟩
    · cases B <;> (
        go_wp2_with fail
        refine Calls.mono (H2.out.swap.ident HY2.out) ?_; rintro e w6 ⟨rfl, h2⟩; have H3 := Aside0.mk h2; clear H2 h2 HY2
        go_wp2_with fail
        refine Calls.mono H3.out.err ?_; rintro e w7 ⟨rfl, rfl⟩
        go_wp2_with fail
        refine (computusref17_Identifier.calls k2 b true _ HK2.out).mono ?_; rintro e w8 ⟨rfl, n2, rfl⟩; have H4 := Aside0.mk (H3.out.drewN n2); clear H3 HK2
        obtain ⟨W3, hW3⟩ : ∃ W3, W3 = w7.drewN n2 := ⟨_, rfl⟩
        rw [← hW3] at H4
        rw [← hW3]
        clear hW3
        go_wp2_with fail
        refine Calls.mono H4.out.offset ?_; rintro e w9 ⟨rfl, rfl⟩
        go_wp2_with fail
        go_ret
        exact ⟨rfl, below_weaken HB.out HB.out.size H4.out.B⟩)
theorem computuslaw25_LinescanIdentifiers.calls (a0 : ByteArray) (a1 : ByteArray) (r : Bool) (w : World) (h : computuslaw25_LinescanIdentifiers.f a0 a1 = some r) : Calls Try.prog 7 #[.string a0, .string a1] w fun e w' => e = .returned (.bool r) ∧ Below w.heap.size w w' := by
  unfold computuslaw25_LinescanIdentifiers.f at h
  by_cases hc : a0.size ≤ 140737488351232 ∧ a1.size ≤ 140737488351232
  · rw [if_pos hc] at h
    obtain rfl : true = r := by simpa using h
    by_cases h2 : a0.size ≤ 100 ∧ a1.size ≤ 1000
    · exact idents_small a0 a1 w h2.1 h2.2
    · exact idents_big a0 a1 w hc.1 hc.2 h2
  · rw [if_neg hc] at h
    exact absurd h (by simp)
end Go.Proofs.Ytjjgkgedadjodab.Q
namespace Go.Proofs.Ytjjgkgedadjodab.Pure
theorem LinescanIdentifiers : ∀ (a0 a1 : ByteArray), a0.size ≤ 140737488351232 → a1.size ≤ 140737488351232 → Q.computuslaw25_LinescanIdentifiers.f a0 a1 = some true := by
  intro a0 a1 h0 h1
  unfold Q.computuslaw25_LinescanIdentifiers.f
  rw [if_pos ⟨h0, h1⟩]
end Go.Proofs.Ytjjgkgedadjodab.Pure
