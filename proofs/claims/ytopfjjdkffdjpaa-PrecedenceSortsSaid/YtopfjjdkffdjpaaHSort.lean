/- What is proved: sort.Stable's functions, over a value whose methods Less and Swap tell and exchange the elements of a list. -/
import Derived.Test.YtopfjjdkffdjpaaSortP
import Derived.Test.YtopfjjdkffdjpaaQx0
import Derived.WalkLawsBesides
namespace Go.Proofs.Ytopfjjdkffdjpaa.Q
open Go.RowKit Go.Proofs.YtopfjjdkffdjpaaW.PrintWords Go.Proofs.YtopfjjdkffdjpaaW.PrintLast Go.Proofs.YtopfjjdkffdjpaaW.PrintMore Go.Proofs.Ytopfjjdkffdjpaa.Srt
set_option linter.unusedVariables false
set_option linter.unusedSimpArgs false

/-- What a value's methods do where the world w holds the list L (St L w). -/
structure Sorter {α : Type} (d : α) (p : α → α → Bool) (T : TypeId) (rv : Value) (gl gs : Nat) (St : List α → World → Prop) : Prop where
  mL : ∀ w, Sem.run Try.prog (method 233 T rv "Less") w = .ok (gl, rv) w
  mS : ∀ w, Sem.run Try.prog (method 233 T rv "Swap") w = .ok (gs, rv) w
  eL : ∀ args w, (callFunc gl args).run Try.prog w = .ok (.enter gl args) w
  eS : ∀ args w, (callFunc gs args).run Try.prog w = .ok (.enter gs args) w
  less : ∀ (L : List α) (w : World) (i k : Nat) (vi vk : Int), St L w → i < L.length → k < L.length → vi = i → vk = k → Calls Try.prog gl #[rv, .int .i64 vi, .int .i64 vk] w fun e w' => e = .returned (.bool (p (L.getD i d) (L.getD k d))) ∧ St L w'
  swap : ∀ (L : List α) (w : World) (i k : Nat) (vi vk : Int), St L w → i < L.length → k < L.length → vi = i → vk = k → Calls Try.prog gs #[rv, .int .i64 vi, .int .i64 vk] w fun e w' => e = .returned (.tuple #[]) ∧ St (swp d L i k) w'

section
variable {α : Type} {d : α} {p : α → α → Bool} {T : TypeId} {rv : Value} {gl gs : Nat} {St : List α → World → Prop} (S : Sorter d p T rv gl gs St)
include S
/-- An exchange of two elements. -/
theorem Sorter.swap_two (U V Z : List α) (x y : α) {w : World} {vi vk : Int} (h : St (U ++ x :: (V ++ y :: Z)) w) (hi : vi = (U.length : Int)) (hk : vk = ((U.length + 1 + V.length : Nat) : Int)) :
    Calls Try.prog gs #[rv, .int .i64 vi, .int .i64 vk] w fun e w' => e = .returned (.tuple #[]) ∧ St (U ++ y :: (V ++ x :: Z)) w' := by
  have := S.swap _ w U.length (U.length + 1 + V.length) vi vk h (by simp) (by simp; omega) hi hk
  rwa [swp_two] at this

set_option maxHeartbeats 4000000 in
set_option maxRecDepth 100000 in
theorem swapRange_any (P X M Y Q : List α) (w : World) (a b n : Nat) (h : St (P ++ (X ++ (M ++ (Y ++ Q)))) w) (ha : a = P.length) (hb : b = P.length + X.length + M.length) (hn : n = X.length) (hy : n = Y.length) (hz : (P ++ (X ++ (M ++ (Y ++ Q)))).length ≤ 1000000000) :
    Calls Try.prog 76 #[.iface T rv, .int .i64 a, .int .i64 b, .int .i64 n] w fun e w' => e = .returned (.tuple #[]) ∧ St (P ++ (Y ++ (M ++ (X ++ Q)))) w' := by
  have hz2 : a + n + n ≤ 1000000000 ∧ b + n ≤ 1000000000 := by simp at hz; omega
  have H := Aside0.mk h
  have mS := S.mS
  have eS := S.eS
  have F := Aside0.mk (And.intro ha (And.intro hb (And.intro hn hy)))
  have SW := Aside0.mk S
  clear h ha hb hn hy hz S
  obtain ⟨z1, z2⟩ := hz2
  go_enter Try.func76, Try.ntmps76
  go_wp2_with fail
  go_loopg [8] n (fun kq v8 w' => ∃ i : Nat, v8 = .int .i64 i ∧ Aside0 (i + kq = n) ∧ Aside0 (St (P ++ (Y.take i ++ (X.drop i ++ (M ++ (X.take i ++ (Y.drop i ++ Q)))))) w'))
  case atStart => exact ⟨0, rfl, ⟨by omega⟩, by simpa using H⟩
  case round =>
    clear H
    obtain ⟨i, rfl, HI, H⟩ := hrel
    by_cases hi : i < n
    · obtain ⟨k1, rfl⟩ : ∃ m, gk = m + 1 := ⟨gk - 1, by have := HI.out; omega⟩
      have c1 : decide ((i : Int) < (n : Int)) = true := decide_eq_true (by omega)
      have c1b : decide (i < n) = true := decide_eq_true hi
      obtain ⟨f1, f2, f3, f4⟩ := F.out
      obtain ⟨x, hx⟩ : ∃ x, X.drop i = x :: X.drop (i + 1) := ⟨X[i], by rw [← List.drop_eq_getElem_cons (by omega)]⟩
      obtain ⟨y, hy⟩ : ∃ y, Y.drop i = y :: Y.drop (i + 1) := ⟨Y[i], by rw [← List.drop_eq_getElem_cons (by omega)]⟩
      have hx2 : X.take (i + 1) = X.take i ++ [x] := by
        have e : X[i] = x := by have h2 := List.drop_eq_getElem_cons (l := X) (i := i) (by omega); rw [hx] at h2; injection h2 with h2; exact h2.symm
        rw [List.take_succ_eq_append_getElem (by omega), e]
      have hy2 : Y.take (i + 1) = Y.take i ++ [y] := by
        have e : Y[i] = y := by have h2 := List.drop_eq_getElem_cons (l := Y) (i := i) (by omega); rw [hy] at h2; injection h2 with h2; exact h2.symm
        rw [List.take_succ_eq_append_getElem (by omega), e]
      have H1 : Aside0 (St ((P ++ Y.take i) ++ x :: ((X.drop (i + 1) ++ (M ++ X.take i)) ++ y :: (Y.drop (i + 1) ++ Q))) wr) := ⟨by have h2 := H.out; rw [hx, hy] at h2; simpa using h2⟩
      have H2 : Aside0 (∀ w', St ((P ++ Y.take i) ++ y :: ((X.drop (i + 1) ++ (M ++ X.take i)) ++ x :: (Y.drop (i + 1) ++ Q))) w' → St (P ++ (Y.take (i + 1) ++ (X.drop (i + 1) ++ (M ++ (X.take (i + 1) ++ (Y.drop (i + 1) ++ Q)))))) w') := ⟨fun w' h2 => by rw [hx2, hy2]; simpa using h2⟩
      have l1 : (P ++ Y.take i).length = a + i := by simp; omega
      have l2 : (X.drop (i + 1) ++ (M ++ X.take i)).length + a + 1 = b := by simp; omega
      have L := Aside0.mk (And.intro l1 l2)
      clear hx hy hx2 hy2 f1 f2 f3 f4 H l1 l2
      go_wp2_with (refine Calls.mono (SW.out.swap_two _ _ _ _ _ H1.out (by rw [L.out.1]; omega) (by rw [L.out.1]; have := L.out.2; omega)) ?_; rintro e w2 ⟨rfl, h2⟩; have H3 := Aside0.mk (H2.out _ h2); clear h2 H1 H2)
      go_roundg k1
      case measure => omega
      case rel => exact ⟨i + 1, by go_num, ⟨by have := HI.out; omega⟩, H3⟩
    · have c1 : decide ((i : Int) < (n : Int)) = false := decide_eq_false (by omega)
      have c1b : decide (i < n) = false := decide_eq_false hi
      obtain ⟨f1, f2, f3, f4⟩ := F.out
      have e1 : Y.take i = Y := List.take_of_length_le (by omega)
      have e2 : X.take i = X := List.take_of_length_le (by omega)
      have e3 : Y.drop i = [] := List.drop_of_length_le (by omega)
      have e4 : X.drop i = [] := List.drop_of_length_le (by omega)
      have H1 : Aside0 (St (P ++ (Y ++ (M ++ (X ++ Q)))) wr) := ⟨by have h2 := H.out; rw [e1, e2, e3, e4] at h2; simpa using h2⟩
      clear e1 e2 e3 e4 f1 f2 f3 f4 H
      go_wp2_with fail
      go_end0
      exact ⟨rfl, H1.out⟩
theorem swapRange_int (P X M Y Q : List α) (w : World) {va vb vn : Int} (h : St (P ++ (X ++ (M ++ (Y ++ Q)))) w) (ha : va = (P.length : Int)) (hb : vb = ((P.length + X.length + M.length : Nat) : Int)) (hn : vn = (X.length : Int)) (hy : X.length = Y.length) (hz : (P ++ (X ++ (M ++ (Y ++ Q)))).length ≤ 1000000000) :
    Calls Try.prog 76 #[.iface T rv, .int .i64 va, .int .i64 vb, .int .i64 vn] w fun e w' => e = .returned (.tuple #[]) ∧ St (P ++ (Y ++ (M ++ (X ++ Q)))) w' := by
  subst ha
  subst hb
  subst hn
  exact swapRange_any S P X M Y Q w _ _ _ h rfl rfl rfl hy hz

set_option maxHeartbeats 4000000 in
set_option maxRecDepth 100000 in
theorem rotate_any (P X Y Q : List α) (w : World) (a m b : Nat) (h : St (P ++ (X ++ (Y ++ Q))) w) (ha : a = P.length) (hm : m = P.length + X.length) (hb : b = P.length + X.length + Y.length) (hX : 0 < X.length) (hY : 0 < Y.length) (hz : (P ++ (X ++ (Y ++ Q))).length ≤ 1000000000) :
    Calls Try.prog 63 #[.iface T rv, .int .i64 a, .int .i64 m, .int .i64 b] w fun e w' => e = .returned (.tuple #[]) ∧ St (P ++ (Y ++ (X ++ Q))) w' := by
  have hz2 : b ≤ 1000000000 ∧ a < m ∧ m < b := by simp at hz; omega
  obtain ⟨i0, hi0⟩ : ∃ i0, i0 = X.length := ⟨_, rfl⟩
  obtain ⟨j0, hj0⟩ : ∃ j0, j0 = Y.length := ⟨_, rfl⟩
  have HM := Aside0.mk (show m = a + i0 ∧ b = m + j0 from by omega)
  have G := Aside0.mk (show ∃ (P' X' Y' Q' : List α), X'.length = i0 ∧ Y'.length = j0 ∧ P'.length + i0 = m ∧ P' ++ (Y' ++ (X' ++ Q')) = P ++ (Y ++ (X ++ Q)) ∧ (P' ++ (X' ++ (Y' ++ Q'))).length ≤ 1000000000 ∧ St (P' ++ (X' ++ (Y' ++ Q'))) w from ⟨P, X, Y, Q, hi0.symm, hj0.symm, by omega, rfl, hz, h⟩)
  have b0 : 0 < i0 ∧ 0 < j0 := by omega
  have SW := Aside0.mk S
  obtain ⟨R, hR⟩ : ∃ R, R = P ++ (Y ++ (X ++ Q)) := ⟨_, rfl⟩
  rw [← hR] at G
  rw [← hR]
  obtain ⟨z1, z2, z3⟩ := hz2
  have e1 : (m : Int) - (a : Int) = (i0 : Int) := by have := HM.out; omega
  have e2 : (b : Int) - (m : Int) = (j0 : Int) := by have := HM.out; omega
  clear h ha hm hb hX hY hz S hi0 hj0 hR
  go_enter Try.func63, Try.ntmps63
  go_wp2_with fail
  clear e1 e2
  go_loopg [8, 9] (i0 + j0) (fun kq v8 v9 w' => ∃ i j : Nat, v8 = .int .i64 i ∧ v9 = .int .i64 j ∧ Aside0 (i + j ≤ kq ∧ 0 < i ∧ 0 < j ∧ i ≤ m ∧ m + j ≤ b) ∧ Aside0 (∃ (P' X' Y' Q' : List α), X'.length = i ∧ Y'.length = j ∧ P'.length + i = m ∧ P' ++ (Y' ++ (X' ++ Q')) = R ∧ (P' ++ (X' ++ (Y' ++ Q'))).length ≤ 1000000000 ∧ St (P' ++ (X' ++ (Y' ++ Q'))) w'))
  case atStart => exact ⟨i0, j0, rfl, rfl, ⟨by have := HM.out; omega⟩, G⟩
  case round =>
    clear G b0 HM
    obtain ⟨i, j, rfl, rfl, HI, G⟩ := hrel
    obtain ⟨q0, q1, q2, q3, q4⟩ := HI.out
    have hk0 : gk ≠ 0 := by omega
    obtain ⟨k1, rfl⟩ : ∃ m, gk = m + 1 := ⟨gk - 1, by omega⟩
    rcases Nat.lt_trichotomy i j with hij | hij | hij
    · have c1 : ((i : Int) != (j : Int)) = true := bne_iff_ne.mpr (by omega)
      have c2 : decide ((j : Int) < (i : Int)) = false := decide_eq_false (by omega)
      have c2b : decide (j < i) = false := decide_eq_false (by omega)
      have H1 : Aside0 (Calls Try.prog 76 #[.iface T rv, .int .i64 ((m : Int) - (i : Int)), .int .i64 ((m : Int) + (j : Int) - (i : Int)), .int .i64 (i : Int)] wr fun e w' => e = .returned (.tuple #[]) ∧ ∃ (P' X' Y' Q' : List α), X'.length = i ∧ Y'.length = j - i ∧ P'.length + i = m ∧ P' ++ (Y' ++ (X' ++ Q')) = R ∧ (P' ++ (X' ++ (Y' ++ Q'))).length ≤ 1000000000 ∧ St (P' ++ (X' ++ (Y' ++ Q'))) w') := ⟨by
        obtain ⟨P', X', Y', Q', g1, g2, g3, g4, g5, g6⟩ := G.out
        have y1 : Y' = Y'.take (j - i) ++ Y'.drop (j - i) := (List.take_append_drop _ _).symm
        have y2 : (Y'.take (j - i)).length = j - i := by rw [List.length_take]; omega
        have y3 : (Y'.drop (j - i)).length = i := by rw [List.length_drop]; omega
        obtain ⟨Y1, hY1⟩ : ∃ Y1, Y1 = Y'.take (j - i) := ⟨_, rfl⟩
        obtain ⟨Y2, hY2⟩ : ∃ Y2, Y2 = Y'.drop (j - i) := ⟨_, rfl⟩
        rw [← hY1, ← hY2] at y1
        rw [← hY1] at y2
        rw [← hY2] at y3
        subst y1
        rw [List.append_assoc] at g6
        refine (swapRange_int SW.out P' X' Y1 Y2 Q' wr g6 (by omega) (by omega) (by omega) (by omega) (by simp at g5 ⊢; omega)).mono ?_
        rintro e w' ⟨he, h2⟩
        refine ⟨he, P', Y2, Y1, X' ++ Q', y3, y2, g3, ?_, ?_, h2⟩
        · rw [← g4]; simp
        · simp at g5 ⊢; omega⟩
      have HIJ := Aside0.mk hij
      clear G q0 hij
      go_wp2_with (refine Calls.mono H1.out ?_; rintro e w2 ⟨rfl, h2⟩; have G := Aside0.mk h2; clear h2 H1)
      go_roundg k1
      case measure => omega
      case rel => exact ⟨i, j - i, rfl, by have h9 := HIJ.out; go_num, ⟨by have := HI.out; have := HIJ.out; omega⟩, G⟩
    · have c1 : ((i : Int) != (j : Int)) = false := bne_eq_false_iff_eq.mpr (by omega)
      have H1 : Aside0 (Calls Try.prog 76 #[.iface T rv, .int .i64 ((m : Int) - (i : Int)), .int .i64 (m : Int), .int .i64 (i : Int)] wr fun e w' => e = .returned (.tuple #[]) ∧ St R w') := ⟨by
        obtain ⟨P', X', Y', Q', g1, g2, g3, g4, g5, g6⟩ := G.out
        refine (swapRange_int SW.out P' X' [] Y' Q' wr (by simpa using g6) (by omega) (by simp; omega) (by omega) (by omega) (by simpa using g5)).mono ?_
        rintro e w' ⟨he, h2⟩
        refine ⟨he, ?_⟩
        rw [← g4]
        simpa using h2⟩
      clear G q0 hij
      go_wp2_with (refine Calls.mono H1.out ?_; rintro e w2 ⟨rfl, h2⟩; have G := Aside0.mk h2; clear h2 H1)
      go_end0
      exact ⟨rfl, G.out⟩
    · have c1 : ((i : Int) != (j : Int)) = true := bne_iff_ne.mpr (by omega)
      have c2 : decide ((j : Int) < (i : Int)) = true := decide_eq_true (by omega)
      have c2b : decide (j < i) = true := decide_eq_true (by omega)
      have H1 : Aside0 (Calls Try.prog 76 #[.iface T rv, .int .i64 ((m : Int) - (i : Int)), .int .i64 (m : Int), .int .i64 (j : Int)] wr fun e w' => e = .returned (.tuple #[]) ∧ ∃ (P' X' Y' Q' : List α), X'.length = i - j ∧ Y'.length = j ∧ P'.length + (i - j) = m ∧ P' ++ (Y' ++ (X' ++ Q')) = R ∧ (P' ++ (X' ++ (Y' ++ Q'))).length ≤ 1000000000 ∧ St (P' ++ (X' ++ (Y' ++ Q'))) w') := ⟨by
        obtain ⟨P', X', Y', Q', g1, g2, g3, g4, g5, g6⟩ := G.out
        have y1 : X' = X'.take j ++ X'.drop j := (List.take_append_drop _ _).symm
        have y2 : (X'.take j).length = j := by rw [List.length_take]; omega
        have y3 : (X'.drop j).length = i - j := by rw [List.length_drop]; omega
        obtain ⟨X1, hX1⟩ : ∃ X1, X1 = X'.take j := ⟨_, rfl⟩
        obtain ⟨X2, hX2⟩ : ∃ X2, X2 = X'.drop j := ⟨_, rfl⟩
        rw [← hX1, ← hX2] at y1
        rw [← hX1] at y2
        rw [← hX2] at y3
        subst y1
        rw [List.append_assoc] at g6
        refine (swapRange_int SW.out P' X1 X2 Y' Q' wr g6 (by omega) (by omega) (by omega) (by omega) (by simp at g5 ⊢; omega)).mono ?_
        rintro e w' ⟨he, h2⟩
        refine ⟨he, P' ++ Y', X2, X1, Q', y3, y2, by simp; omega, ?_, ?_, by simpa using h2⟩
        · rw [← g4]; simp
        · simp at g5 ⊢; omega⟩
      have HIJ := Aside0.mk hij
      clear G q0 hij
      go_wp2_with (refine Calls.mono H1.out ?_; rintro e w2 ⟨rfl, h2⟩; have G := Aside0.mk h2; clear h2 H1)
      go_roundg k1
      case measure => omega
      case rel => exact ⟨i - j, j, by have h9 := HIJ.out; go_num, rfl, ⟨by have := HI.out; have := HIJ.out; omega⟩, G⟩
/-- The same exchange, its places the other way round. -/
theorem Sorter.swap_back (U V Z : List α) (x y : α) {w : World} {vi vk : Int} (h : St (U ++ x :: (V ++ y :: Z)) w) (hi : vi = (U.length : Int)) (hk : vk = ((U.length + 1 + V.length : Nat) : Int)) :
    Calls Try.prog gs #[rv, .int .i64 vk, .int .i64 vi] w fun e w' => e = .returned (.tuple #[]) ∧ St (U ++ y :: (V ++ x :: Z)) w' := by
  have := S.swap _ w (U.length + 1 + V.length) U.length vk vi h (by simp; omega) (by simp) hk hi
  rwa [swp_comm _ _ _ _ (by simp; omega) (by simp), swp_two] at this

set_option maxHeartbeats 4000000 in
set_option maxRecDepth 100000 in
theorem insertionSort_any (W : Wo p) (P X Q : List α) (w : World) (a b : Nat) (h : St (P ++ (X ++ Q)) w) (ha : a = P.length) (hb : b = P.length + X.length) (hz : (P ++ (X ++ Q)).length ≤ 1000000000) :
    Calls Try.prog 54 #[.iface T rv, .int .i64 a, .int .i64 b] w fun e w' => e = .returned (.tuple #[]) ∧ St (P ++ (isort p X ++ Q)) w' := by
  have hz2 : b ≤ 1000000000 ∧ a ≤ b := by simp at hz; omega
  obtain ⟨z1, z2⟩ := hz2
  have F := Aside0.mk (And.intro ha hb)
  have H : Aside0 (St (P ++ (isort p (X.take 1) ++ (X.drop 1 ++ Q))) w) := ⟨by
    have e : isort p (X.take 1) = X.take 1 := by cases X <;> rfl
    rw [e]
    have : X.take 1 ++ (X.drop 1 ++ Q) = X ++ Q := by rw [← List.append_assoc, List.take_append_drop]
    rw [this]
    exact h⟩
  have mL := S.mL
  have eL := S.eL
  have mS := S.mS
  have eS := S.eS
  have SW := Aside0.mk S
  clear h ha hb hz S
  go_enter Try.func54, Try.ntmps54
  go_wp2_with fail
  go_loopg [6, 7] (b - a) (fun kq v6 v7 w' => ∃ t : Nat, v6 = .int .i64 ((a + 1 + t : Nat) : Int) ∧ Aside0 (b ≤ a + 1 + t + kq ∧ a + 1 + t ≤ b + 1) ∧ Aside0 (St (P ++ (isort p (X.take (t + 1)) ++ (X.drop (t + 1) ++ Q))) w'))
  case atStart => exact ⟨0, by go_num, ⟨by omega⟩, H⟩
  case round =>
    clear H
    obtain ⟨t, rfl, HI, H⟩ := hrel
    by_cases hi : a + 1 + t < b
    · obtain ⟨k1, rfl⟩ : ∃ m, gk = m + 1 := ⟨gk - 1, by have := HI.out; omega⟩
      have c1 : decide ((a : Int) + 1 + (t : Int) < (b : Int)) = true := decide_eq_true (by omega)
      have c1b : decide (a + 1 + t < b) = true := decide_eq_true hi
      obtain ⟨x, hx⟩ : ∃ x, X.drop (t + 1) = x :: X.drop (t + 1 + 1) := ⟨X[t + 1]'(by have := F.out; omega), by rw [← List.drop_eq_getElem_cons]⟩
      have hx2 : X.take (t + 1 + 1) = X.take (t + 1) ++ [x] := by
        have hl : t + 1 < X.length := by have := F.out; omega
        have e : X[t + 1] = x := by have h2 := List.drop_eq_getElem_cons (l := X) (i := t + 1) hl; rw [hx] at h2; injection h2 with h2; exact h2.symm
        rw [List.take_succ_eq_append_getElem hl, e]
      have hs := isort_srtd W (X.take (t + 1))
      have hl : (isort p (X.take (t + 1))).length = t + 1 := by rw [length_isort, List.length_take]; have := F.out; omega
      have N : Aside0 (∀ (A1 A2 : List α) (w' : World), isort p (X.take (t + 1)) = A1 ++ A2 → (∀ y ∈ A2, p x y = true) → (∀ y, A1.getLast? = some y → p x y = false) → St (P ++ (A1 ++ (x :: (A2 ++ (X.drop (t + 1 + 1) ++ Q))))) w' → St (P ++ (isort p (X.take (t + 1 + 1)) ++ (X.drop (t + 1 + 1) ++ Q))) w') := ⟨by
        intro A1 A2 w' e1 e2 e3 h2
        rw [hx2, isort_snoc, e1, ins_at x A1 A2]
        · simpa using h2
        · intro z hz
          rcases snoc_cases A1 with rfl | ⟨B, y, rfl⟩
          · simp at hz
          · have hy := e3 y (by simp)
            rw [List.mem_append] at hz
            rcases hz with hz | hz
            · have hp : p y z = false := by
                rw [e1] at hs
                unfold Srtd at hs
                rw [List.append_assoc, List.pairwise_append] at hs
                exact hs.2.2 z hz y (by simp)
              exact W.neg _ _ _ hy hp
            · simp at hz
              rw [hz]; exact hy
        · intro y hy
          cases A2 with
          | nil => simp at hy
          | cons y2 A2 => simp at hy; subst hy; exact e2 _ (by simp)⟩
      have G : Aside0 (∃ A1 A2 : List α, isort p (X.take (t + 1)) = A1 ++ A2 ∧ A1.length = t + 1 ∧ (∀ y ∈ A2, p x y = true) ∧ St (P ++ (A1 ++ (x :: (A2 ++ (X.drop (t + 1 + 1) ++ Q))))) wr) := ⟨isort p (X.take (t + 1)), [], by simp, hl, by simp, by have h2 := H.out; rw [hx] at h2; simpa using h2⟩
      have HX := Aside0.mk hi
      have hti : (a : Int) + 1 + (t : Int) ≤ 1000000000 := by omega
      clear hx hx2 hs hl H hi
      go_wp2_with fail
      clear c1 c1b
      go_loopg [7] (t + 1) (fun kq v7 w' => ∃ j : Nat, v7 = .int .i64 ((a + j : Nat) : Int) ∧ Aside0 (j ≤ kq ∧ j ≤ t + 1) ∧ Aside0 (∃ A1 A2 : List α, isort p (X.take (t + 1)) = A1 ++ A2 ∧ A1.length = j ∧ (∀ y ∈ A2, p x y = true) ∧ St (P ++ (A1 ++ (x :: (A2 ++ (X.drop (t + 1 + 1) ++ Q))))) w'))
      case atStart => exact ⟨t + 1, by go_num, ⟨by omega⟩, G⟩
      case round =>
        clear G
        obtain ⟨j, rfl, HJ, G⟩ := hrel
        have hj2 : j ≤ t + 1 := HJ.out.2
        have hjb : (a : Int) + (j : Int) ≤ 1000000000 := by have := HX.out; omega
        by_cases hj : j = 0
        · subst hj
          have H3 : Aside0 (St (P ++ (isort p (X.take (t + 1 + 1)) ++ (X.drop (t + 1 + 1) ++ Q))) wr) := ⟨by
            obtain ⟨A1, A2, g1, g2, g3, g4⟩ := G.out
            exact N.out A1 A2 _ g1 g3 (fun y hy => by obtain rfl := List.length_eq_zero_iff.1 g2; simp at hy) g4⟩
          clear G HJ hj2 hjb
          go_wp2_with fail
          go_roundg k1
          case measure => omega
          case rel => exact ⟨t + 1, by go_num, ⟨by have := HX.out; have := HI.out; omega⟩, H3⟩
        · obtain ⟨k2, rfl⟩ : ∃ m, gk = m + 1 := ⟨gk - 1, by have := HJ.out; omega⟩
          have c2 : decide ((a : Int) < (a : Int) + (j : Int)) = true := decide_eq_true (by omega)
          have c2b : decide (a < a + j) = true := decide_eq_true (by omega)
          have j0 : (1 : Int) ≤ (j : Int) := by omega
          obtain ⟨A1, A2, g1, g2, g3, g4⟩ := G.out
          obtain ⟨B, y, hB⟩ : ∃ B y, A1 = B ++ [y] := by
            rcases snoc_cases A1 with rfl | ⟨B, y, h⟩
            · simp at g2; omega
            · exact ⟨B, y, h⟩
          subst hB
          have gl2 : B.length + 1 = j := by simpa using g2
          have H1 : Aside0 (St ((P ++ B) ++ y :: ([] ++ x :: (A2 ++ (X.drop (t + 1 + 1) ++ Q)))) wr) := ⟨by simpa using g4⟩
          have HL : Aside0 (Calls Try.prog gl #[rv, .int .i64 ((a : Int) + (j : Int)), .int .i64 ((a : Int) + (j : Int) - 1)] wr fun e w' => e = .returned (.bool (p x y)) ∧ St ((P ++ B) ++ y :: ([] ++ x :: (A2 ++ (X.drop (t + 1 + 1) ++ Q)))) w') := ⟨by
            have hp := F.out.1
            have := SW.out.less _ wr (a + j) (a + j - 1) ((a : Int) + (j : Int)) ((a : Int) + (j : Int) - 1) H1.out (by simp; omega) (by simp; omega) (by omega) (by omega)
            have e1 : ((P ++ B) ++ y :: ([] ++ x :: (A2 ++ (X.drop (t + 1 + 1) ++ Q)))).getD (a + j) d = x := by
              have := getD_mid d (P ++ B ++ [y]) (A2 ++ (X.drop (t + 1 + 1) ++ Q)) x
              rw [show (P ++ B ++ [y]).length = a + j by simp; omega] at this
              refine Eq.trans ?_ this
              simp only [List.append_assoc, List.cons_append, List.nil_append]
            have e2 : ((P ++ B) ++ y :: ([] ++ x :: (A2 ++ (X.drop (t + 1 + 1) ++ Q)))).getD (a + j - 1) d = y := by
              have := getD_mid d (P ++ B) ([] ++ x :: (A2 ++ (X.drop (t + 1 + 1) ++ Q))) y
              rwa [show (P ++ B).length = a + j - 1 by simp; omega] at this
            rwa [e1, e2] at this⟩
          have GE := Aside0.mk (And.intro g1 (And.intro g3 gl2))
          have FP := Aside0.mk F.out.1
          clear G g1 g2 g3 g4 H1 gl2
          obtain ⟨r, hr⟩ : ∃ r, r = p x y := ⟨_, rfl⟩
          rw [← hr] at HL
          cases r with
          | false =>
            have HR := Aside0.mk hr.symm
            clear hr
            go_wp2_with (refine Calls.mono HL.out ?_; rintro e w2 ⟨rfl, h2⟩; have H1 := Aside0.mk h2; clear h2 HL)
            have H3 : Aside0 (St (P ++ (isort p (X.take (t + 1 + 1)) ++ (X.drop (t + 1 + 1) ++ Q))) w2) := ⟨N.out (B ++ [y]) A2 _ GE.out.1 GE.out.2.1 (fun z hz => by simp at hz; subst hz; exact HR.out) (by have := H1.out; simpa using this)⟩
            clear GE H1 HJ hj2 hjb
            go_roundg k1
            case measure => omega
            case rel => exact ⟨t + 1, by go_num, ⟨by have := HX.out; have := HI.out; omega⟩, H3⟩
          | true =>
            have HR := Aside0.mk hr.symm
            clear hr
            go_wp2_with (first | (refine Calls.mono HL.out ?_; rintro e w2 ⟨rfl, h2⟩; have H1 := Aside0.mk h2; clear h2 HL) | (refine Calls.mono (SW.out.swap_back _ _ _ _ _ H1.out (by have := FP.out; have := GE.out.2.2; simp; omega) (by have := FP.out; have := GE.out.2.2; simp; omega)) ?_; rintro e w3 ⟨rfl, h2⟩; have H2 := Aside0.mk h2; clear h2 H1))
            go_roundg k2
            case measure => omega
            case rel => exact ⟨j - 1, by have h9 := GE.out.2.2; go_num, ⟨by have := HJ.out; omega⟩, ⟨B, y :: A2, by rw [GE.out.1]; simp, by have := GE.out.2.2; omega, by intro z hz; rcases List.mem_cons.1 hz with rfl | hz; exact HR.out; exact GE.out.2.1 z hz, by have := H2.out; simpa using this⟩⟩
    · have c1 : decide ((a : Int) + 1 + (t : Int) < (b : Int)) = false := decide_eq_false (by omega)
      have c1b : decide (a + 1 + t < b) = false := decide_eq_false hi
      have H1 : Aside0 (St (P ++ (isort p X ++ Q)) wr) := ⟨by
        have h2 := H.out
        have h3 := F.out
        rw [List.take_of_length_le (by omega), List.drop_of_length_le (by omega)] at h2
        simpa using h2⟩
      clear H
      go_wp2_with fail
      go_end0
      exact ⟨rfl, H1.out⟩
end
end Go.Proofs.Ytopfjjdkffdjpaa.Q
