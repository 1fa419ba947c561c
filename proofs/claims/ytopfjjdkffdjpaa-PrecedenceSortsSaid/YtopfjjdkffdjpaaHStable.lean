/- What is proved: sort.stable and sort.Stable sort a list by insertion, whatever value of methods Len, Less and Swap holds it. -/
import Derived.Test.YtopfjjdkffdjpaaHSymG
namespace Go.Proofs.Ytopfjjdkffdjpaa.Q
open Go.RowKit Go.Proofs.YtopfjjdkffdjpaaW.PrintWords Go.Proofs.YtopfjjdkffdjpaaW.PrintLast Go.Proofs.YtopfjjdkffdjpaaW.PrintMore Go.Proofs.Ytopfjjdkffdjpaa.Srt
set_option linter.unusedVariables false
set_option linter.unusedSimpArgs false

section
variable {α : Type} {d : α} {p : α → α → Bool} {T : TypeId} {rv : Value} {gl gs : Nat} {St : List α → World → Prop} (S : Sorter d p T rv gl gs St)
include S

set_option maxHeartbeats 8000000 in
set_option maxRecDepth 100000 in
theorem stable_any (W : Wo p) (L : List α) (w : World) (n : Nat) (h : St L w) (hn : n = L.length) (hz : L.length ≤ 1000000000) :
    Calls Try.prog 43 #[.iface T rv, .int .i64 n] w fun e w' => e = .returned (.tuple #[]) ∧ St (isort p L) w' := by
  have SW := Aside0.mk S
  have HN := Aside0.mk hn
  have zn : n ≤ 1000000000 := by omega
  have H : Aside0 (∃ D K : List α, D.length = 0 ∧ D.length + K.length = n ∧ D ++ sB p 20 K = sB p 20 L ∧ St (D ++ K) w) := ⟨[], L, rfl, by simpa using hn.symm, rfl, h⟩
  clear h hz S hn
  go_enter Try.func43, Try.ntmps43
  go_wp2_with fail
  go_loopg [5, 6] n (fun kq v5 v6 w' => ∃ a : Nat, v5 = .int .i64 a ∧ v6 = .int .i64 ((a : Int) + 20) ∧ Aside0 (n ≤ a + kq ∧ a ≤ n) ∧ Aside0 (∃ D K : List α, D.length = a ∧ D.length + K.length = n ∧ D ++ sB p 20 K = sB p 20 L ∧ St (D ++ K) w'))
  case atStart => exact ⟨0, rfl, rfl, ⟨by omega⟩, H⟩
  case round =>
    clear H
    obtain ⟨a, rfl, rfl, HI, H⟩ := hrel
    have ha : a ≤ n := HI.out.2
    by_cases hb : a + 20 ≤ n
    · obtain ⟨k1, rfl⟩ : ∃ m, gk = m + 1 := ⟨gk - 1, by have := HI.out; omega⟩
      have c1 : decide ((a : Int) + 20 ≤ (n : Int)) = true := decide_eq_true (by omega)
      have c1b : decide (a + 20 ≤ n) = true := decide_eq_true hb
      have HC : Aside0 (Calls Try.prog 54 #[.iface T rv, .int .i64 a, .int .i64 ((a : Int) + 20)] wr fun e w' => e = .returned (.tuple #[]) ∧ ∃ D K : List α, D.length = a + 20 ∧ D.length + K.length = n ∧ D ++ sB p 20 K = sB p 20 L ∧ St (D ++ K) w') := ⟨by
        obtain ⟨D, K, h1, h2, h3, h4⟩ := H.out
        have e : K.take 20 ++ K.drop 20 = K := List.take_append_drop _ _
        have l20 : (K.take 20).length = 20 := by rw [List.length_take]; omega
        have := insertionSort_any SW.out W D (K.take 20) (K.drop 20) wr a (a + 20) (by rw [e]; exact h4) h1.symm (by omega) (by rw [e, List.length_append]; omega)
        rw [show ((a + 20 : Nat) : Int) = (a : Int) + 20 by omega] at this
        refine this.mono ?_
        rintro e w2 ⟨he, h5⟩
        refine ⟨he, D ++ isort p (K.take 20), K.drop 20, by rw [List.length_append, length_isort, l20, h1], by rw [List.length_append, length_isort, l20, List.length_drop]; omega, ?_, by rw [List.append_assoc]; exact h5⟩
        rw [← h3, sB_step p (by omega) (show 20 ≤ K.length by omega), List.append_assoc]⟩
      clear H
      go_wp2_with (refine Calls.mono HC.out ?_; rintro e w2 ⟨rfl, h2⟩; have H := Aside0.mk h2; clear h2 HC)
      go_roundg k1
      case measure => omega
      case rel => exact ⟨a + 20, by go_num, by go_num, ⟨by have := HI.out; omega⟩, H⟩
    · have c1 : decide ((a : Int) + 20 ≤ (n : Int)) = false := decide_eq_false (by omega)
      have c1b : decide (a + 20 ≤ n) = false := decide_eq_false hb
      have HC : Aside0 (Calls Try.prog 54 #[.iface T rv, .int .i64 a, .int .i64 n] wr fun e w' => e = .returned (.tuple #[]) ∧ St (sB p 20 L) w') := ⟨by
        obtain ⟨D, K, h1, h2, h3, h4⟩ := H.out
        have := insertionSort_any SW.out W D K [] wr a n (by simpa using h4) h1.symm (by omega) (by simp; omega)
        refine this.mono ?_
        rintro e w2 ⟨he, h5⟩
        refine ⟨he, ?_⟩
        rw [← h3, sB_small p (show K.length ≤ 20 by omega)]
        simpa using h5⟩
      clear H HI
      go_wp2_with (refine Calls.mono HC.out ?_; rintro e w2 ⟨rfl, h2⟩; have H := Aside0.mk h2; clear h2 HC)
      clear c1 c1b hb ha
      go_loopg [4, 5, 6, 7] n (fun kq v4 v5 v6 v7 w' => ∃ s : Nat, v4 = .int .i64 s ∧ Aside0 (0 < s ∧ n ≤ s + kq ∧ s ≤ 3000000000) ∧ Aside0 (St (sB p s L) w'))
      case atStart => exact ⟨20, rfl, ⟨by omega⟩, H⟩
      case round =>
        clear H
        obtain ⟨s, rfl, HI, H⟩ := hrel
        obtain ⟨q1, q2, q3⟩ := HI.out
        by_cases hs : s < n
        · obtain ⟨k1, rfl⟩ : ∃ m, gk = m + 1 := ⟨gk - 1, by omega⟩
          have c1 : decide ((s : Int) < (n : Int)) = true := decide_eq_true (by omega)
          have c1b : decide (s < n) = true := decide_eq_true hs
          have H0 : Aside0 (∃ D K : List α, D.length = 0 ∧ D.length + K.length = n ∧ D ++ sB p (2 * s) K = sB p (2 * s) L ∧ St (D ++ sB p s K) wr) := ⟨[], L, rfl, by have := HN.out; simp; omega, rfl, H.out⟩
          have HG := Aside0.mk (And.intro q1 (And.intro q2 hs))
          clear H q2 q3
          go_wp2_with fail
          clear c1 c1b
          go_loopg [5, 6] n (fun kq v5 v6 w' => ∃ a : Nat, v5 = .int .i64 a ∧ v6 = .int .i64 ((a : Int) + 2 * (s : Int)) ∧ Aside0 (n ≤ a + kq ∧ a ≤ n) ∧ Aside0 (∃ D K : List α, D.length = a ∧ D.length + K.length = n ∧ D ++ sB p (2 * s) K = sB p (2 * s) L ∧ St (D ++ sB p s K) w'))
          case atStart => exact ⟨0, rfl, by go_num, ⟨by omega⟩, H0⟩
          case round =>
            clear H0
            obtain ⟨a, rfl, rfl, HJ, H⟩ := hrel
            have ha : a ≤ n := HJ.out.2
            by_cases hb : a + 2 * s ≤ n
            · obtain ⟨k2, rfl⟩ : ∃ m, gk = m + 1 := ⟨gk - 1, by have := HJ.out; omega⟩
              have c1 : decide ((a : Int) + 2 * (s : Int) ≤ (n : Int)) = true := decide_eq_true (by omega)
              have c1b : decide (a + 2 * s ≤ n) = true := decide_eq_true hb
              have HC : Aside0 (Calls Try.prog 55 #[.iface T rv, .int .i64 a, .int .i64 ((a : Int) + (s : Int)), .int .i64 ((a : Int) + 2 * (s : Int))] wr fun e w' => e = .returned (.tuple #[]) ∧ ∃ D K : List α, D.length = a + 2 * s ∧ D.length + K.length = n ∧ D ++ sB p (2 * s) K = sB p (2 * s) L ∧ St (D ++ sB p s K) w') := ⟨by
                obtain ⟨D, K, h1, h2, h3, h4⟩ := H.out
                have e : K.take (2 * s) = K.take s ++ (K.drop s).take s := by rw [show 2 * s = s + s by omega, List.take_add]
                have e2 : (K.drop s).drop s = K.drop (2 * s) := by rw [List.drop_drop]; congr 1; omega
                have l1 : (K.take s).length = s := by rw [List.length_take]; omega
                have l2 : ((K.drop s).take s).length = s := by rw [List.length_take, List.length_drop]; omega
                have l3 : (sB p s (K.drop (2 * s))).length = K.length - 2 * s := by rw [length_sB p q1 _ _ (Nat.le_refl _), List.length_drop]
                rw [sB_step p q1 (show s ≤ K.length by omega), sB_step p q1 (show s ≤ (K.drop s).length by rw [List.length_drop]; omega), e2] at h4
                have := symMerge_any SW.out W _ D (isort p (K.take s)) (isort p ((K.drop s).take s)) (sB p s (K.drop (2 * s))) wr a (a + s) (a + 2 * s) (Nat.le_refl _) h4 h1.symm (by rw [length_isort]; omega) (by rw [length_isort]; omega) (by rw [length_isort]; omega) (by rw [length_isort]; omega) (isort_srtd W _) (isort_srtd W _) (by simp only [List.length_append, length_isort, l1, l2, l3]; omega)
                rw [show ((a + s : Nat) : Int) = (a : Int) + (s : Int) by omega, show ((a + 2 * s : Nat) : Int) = (a : Int) + 2 * (s : Int) by omega, ← isort_append W, ← e] at this
                refine this.mono ?_
                rintro e w2 ⟨he, h5⟩
                refine ⟨he, D ++ isort p (K.take (2 * s)), K.drop (2 * s), by rw [List.length_append, length_isort, List.length_take]; omega, by rw [List.length_append, length_isort, List.length_take, List.length_drop]; omega, ?_, by rw [List.append_assoc]; exact h5⟩
                rw [← h3, sB_step p (by omega) (show 2 * s ≤ K.length by omega), List.append_assoc]⟩
              clear H
              go_wp2_with (refine Calls.mono HC.out ?_; rintro e w2 ⟨rfl, h2⟩; have H := Aside0.mk h2; clear h2 HC)
              go_roundg k2
              case measure => omega
              case rel => exact ⟨a + 2 * s, by go_num, by go_num, ⟨by have := HJ.out; omega⟩, H⟩
            · have c1 : decide ((a : Int) + 2 * (s : Int) ≤ (n : Int)) = false := decide_eq_false (by omega)
              have c1b : decide (a + 2 * s ≤ n) = false := decide_eq_false hb
              have q1' : (1 : Int) ≤ (s : Int) := by omega
              by_cases hm : a + s < n
              · have c2 : decide ((a : Int) + (s : Int) < (n : Int)) = true := decide_eq_true (by omega)
                have c2b : decide (a + s < n) = true := decide_eq_true hm
                have HC : Aside0 (Calls Try.prog 55 #[.iface T rv, .int .i64 a, .int .i64 ((a : Int) + (s : Int)), .int .i64 n] wr fun e w' => e = .returned (.tuple #[]) ∧ St (sB p (2 * s) L) w') := ⟨by
                  obtain ⟨D, K, h1, h2, h3, h4⟩ := H.out
                  have l1 : (K.take s).length = s := by rw [List.length_take]; omega
                  rw [sB_step p q1 (show s ≤ K.length by omega), sB_small p (show (K.drop s).length ≤ s by rw [List.length_drop]; omega)] at h4
                  have := symMerge_any SW.out W _ D (isort p (K.take s)) (isort p (K.drop s)) [] wr a (a + s) n (Nat.le_refl _) (by simpa using h4) h1.symm (by rw [length_isort]; omega) (by rw [length_isort, List.length_drop]; omega) (by rw [length_isort]; omega) (by rw [length_isort, List.length_drop]; omega) (isort_srtd W _) (isort_srtd W _) (by simp only [List.length_append, length_isort, l1, List.length_drop, List.length_nil]; omega)
                  rw [show ((a + s : Nat) : Int) = (a : Int) + (s : Int) by omega, ← isort_append W, List.take_append_drop] at this
                  refine this.mono ?_
                  rintro e w2 ⟨he, h5⟩
                  refine ⟨he, ?_⟩
                  rw [← h3, sB_small p (show K.length ≤ 2 * s by omega)]
                  simpa using h5⟩
                clear H
                go_wp2_with (refine Calls.mono HC.out ?_; rintro e w2 ⟨rfl, h2⟩; have H := Aside0.mk h2; clear h2 HC)
                go_roundg k1
                case measure => have := HG.out; omega
                case rel => exact ⟨2 * s, by go_num, ⟨by have := HG.out; omega⟩, H⟩
              · have c2 : decide ((a : Int) + (s : Int) < (n : Int)) = false := decide_eq_false (by omega)
                have c2b : decide (a + s < n) = false := decide_eq_false hm
                have H2 : Aside0 (St (sB p (2 * s) L) wr) := ⟨by
                  obtain ⟨D, K, h1, h2, h3, h4⟩ := H.out
                  rw [← h3, sB_small p (show K.length ≤ 2 * s by omega)]
                  rwa [sB_small p (show K.length ≤ s by omega)] at h4⟩
                clear H
                go_wp2_with fail
                go_roundg k1
                case measure => have := HG.out; omega
                case rel => exact ⟨2 * s, by go_num, ⟨by have := HG.out; omega⟩, H2⟩
        · have c1 : decide ((s : Int) < (n : Int)) = false := decide_eq_false (by omega)
          have c1b : decide (s < n) = false := decide_eq_false hs
          have H1 : Aside0 (St (isort p L) wr) := ⟨by
            have h2 := H.out
            rwa [sB_small p (show L.length ≤ s by have := HN.out; omega)] at h2⟩
          clear H
          go_wp2_with fail
          go_end0
          exact ⟨rfl, H1.out⟩

set_option maxRecDepth 100000 in
theorem Stable_any (W : Wo p) {gn : Nat} (mN : ∀ w, Sem.run Try.prog (method 233 T rv "Len") w = .ok (gn, rv) w) (eN : ∀ args w, (callFunc gn args).run Try.prog w = .ok (.enter gn args) w)
    (L : List α) (w : World) (hlen : Calls Try.prog gn #[rv] w fun e w' => e = .returned (.int .i64 L.length) ∧ St L w') (hz : L.length ≤ 1000000000) :
    Calls Try.prog 30 #[.iface T rv] w fun e w' => e = .returned (.tuple #[]) ∧ St (isort p L) w' := by
  have SW := Aside0.mk S
  have HL := Aside0.mk hlen
  have HZ := Aside0.mk hz
  clear S hlen hz
  go_enter Try.func30, Try.ntmps30
  go_wp2_with (refine Calls.mono HL.out ?_; rintro e w2 ⟨rfl, h2⟩; have H := Aside0.mk h2; clear h2 HL)
  go_wp2_with (refine Calls.mono (stable_any SW.out W L _ _ H.out rfl HZ.out) ?_; rintro e w2 ⟨rfl, h2⟩; have H1 := Aside0.mk h2; clear h2)
  go_end0
  exact ⟨rfl, H1.out⟩
end
end Go.Proofs.Ytopfjjdkffdjpaa.Q
