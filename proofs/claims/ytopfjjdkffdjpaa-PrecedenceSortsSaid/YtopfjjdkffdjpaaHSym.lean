/- What is proved: sort.symMerge merges two sorted parts of a list, and sort.stable sorts it; over whatever value of methods Less and Swap. -/
import Derived.Test.YtopfjjdkffdjpaaHSort
namespace Go.Proofs.Ytopfjjdkffdjpaa.Q
open Go.RowKit Go.Proofs.YtopfjjdkffdjpaaW.PrintWords Go.Proofs.YtopfjjdkffdjpaaW.PrintLast Go.Proofs.YtopfjjdkffdjpaaW.PrintMore Go.Proofs.Ytopfjjdkffdjpaa.Srt
set_option linter.unusedVariables false
set_option linter.unusedSimpArgs false

theorem getD_app {α : Type} (d : α) (A B : List α) (q : Nat) : (A ++ B).getD (A.length + q) d = B.getD q d := by
  rw [List.getD_eq_getElem?_getD, List.getElem?_append_right (by omega), Nat.add_sub_cancel_left, ← List.getD_eq_getElem?_getD]
theorem getD_lt {α : Type} (d : α) (A B : List α) (q : Nat) (h : q < A.length) : (A ++ B).getD q d = A.getD q d := by
  rw [List.getD_eq_getElem?_getD, List.getElem?_append_left h, ← List.getD_eq_getElem?_getD]
theorem getD_get {α : Type} (d : α) (A : List α) (q : Nat) (h : q < A.length) : A.getD q d = A[q] := by
  rw [List.getD_eq_getElem?_getD, List.getElem?_eq_getElem h]; rfl
theorem srtd_get {α : Type} {p : α → α → Bool} (d : α) {A : List α} (h : Srtd p A) {q r : Nat} (hq : q < r) (hr : r < A.length) : p (A.getD r d) (A.getD q d) = false := by
  rw [getD_get d A r hr, getD_get d A q (by omega)]
  exact List.pairwise_iff_getElem.1 h q r (by omega) hr hq
theorem mem_take_getD {α : Type} (d : α) (A : List α) (t : Nat) {y : α} (h : y ∈ A.take t) : ∃ q, q < t ∧ q < A.length ∧ A.getD q d = y := by
  obtain ⟨q, hq, e⟩ := List.mem_iff_getElem.1 h
  rw [List.length_take] at hq
  refine ⟨q, by omega, by omega, ?_⟩
  rw [getD_get d A q (by omega), ← e, List.getElem_take]
theorem mem_drop_getD {α : Type} (d : α) (A : List α) (t : Nat) {y : α} (h : y ∈ A.drop t) : ∃ q, t ≤ q ∧ q < A.length ∧ A.getD q d = y := by
  obtain ⟨q, hq, e⟩ := List.mem_iff_getElem.1 h
  rw [List.length_drop] at hq
  refine ⟨t + q, by omega, by omega, ?_⟩
  rw [getD_get d A (t + q) (by omega), ← e, List.getElem_drop]

section
variable {α : Type} {d : α} {p : α → α → Bool} {T : TypeId} {rv : Value} {gl gs : Nat} {St : List α → World → Prop} (S : Sorter d p T rv gl gs St)
include S
set_option maxHeartbeats 4000000 in
set_option maxRecDepth 100000 in
theorem sym_left (W : Wo p) (P B Q : List α) (x : α) (w : World) (a m b : Nat) (h : St (P ++ (x :: (B ++ Q))) w) (ha : a = P.length) (hm : m = a + 1) (hb : b = m + B.length) (hB : 0 < B.length) (hs : Srtd p B) (hz : (P ++ (x :: (B ++ Q))).length ≤ 1000000000) :
    Calls Try.prog 55 #[.iface T rv, .int .i64 a, .int .i64 m, .int .i64 b] w fun e w' => e = .returned (.tuple #[]) ∧ St (P ++ (mrg p [x] B ++ Q)) w' := by
  have hz2 : b ≤ 1000000000 ∧ m < b := by simp at hz; omega
  obtain ⟨z1, z2⟩ := hz2
  have F := Aside0.mk (And.intro ha (And.intro hm hb))
  have H := Aside0.mk h
  have HS := Aside0.mk hs
  have mL := S.mL
  have eL := S.eL
  have mS := S.mS
  have eS := S.eS
  have SW := Aside0.mk S
  have e1 : ((m : Int) - (a : Int) == 1) = true := by rw [beq_iff_eq]; omega
  have z3 : a < m := by omega
  clear h ha hb hz S hs hm
  go_enter Try.func55, Try.ntmps55
  go_wp2_with fail
  clear e1
  go_loopg [8, 9, 10] (b - m) (fun kq v8 v9 v10 w' => ∃ i j : Nat, v8 = .int .i64 i ∧ v9 = .int .i64 j ∧ Aside0 (m ≤ i ∧ i ≤ j ∧ j ≤ b ∧ j ≤ i + kq) ∧ Aside0 ((∀ q, q + m < i → p (B.getD q d) x = true) ∧ (∀ q, j ≤ q + m → q < B.length → p (B.getD q d) x = false)) ∧ Aside0 (St (P ++ (x :: (B ++ Q))) w'))
  case atStart => exact ⟨m, b, rfl, rfl, ⟨by omega⟩, ⟨fun q hq => by omega, fun q h1 h2 => by have := F.out; omega⟩, H⟩
  case round =>
    clear H
    obtain ⟨i, j, rfl, rfl, HI, HQ, H⟩ := hrel
    obtain ⟨i1, i2, i3, i4⟩ := HI.out
    by_cases hij : i < j
    · obtain ⟨k1, rfl⟩ : ∃ m, gk = m + 1 := ⟨gk - 1, by omega⟩
      have c1 : decide ((i : Int) < (j : Int)) = true := decide_eq_true (by omega)
      have c1b : decide (i < j) = true := decide_eq_true hij
      obtain ⟨q, hh, hq1, hq2⟩ : ∃ q : Nat, ((i : Int) + (j : Int)) / 2 = (m : Int) + (q : Int) ∧ i ≤ m + q ∧ m + q < j := ⟨(i + j) / 2 - m, by omega, by omega, by omega⟩
      have HL : Aside0 (Calls Try.prog gl #[rv, .int .i64 ((m : Int) + (q : Int)), .int .i64 (a : Int)] wr fun e w' => e = .returned (.bool (p (B.getD q d) x)) ∧ St (P ++ (x :: (B ++ Q))) w') := ⟨by
        obtain ⟨f1, f2, f3⟩ := F.out
        have := SW.out.less _ wr (P.length + 1 + q) P.length ((m : Int) + (q : Int)) (a : Int) H.out (by simp; omega) (by simp) (by omega) (by omega)
        have e2 := getD_mid d P (B ++ Q) x
        have e3 : (P ++ (x :: (B ++ Q))).getD (P.length + 1 + q) d = B.getD q d := by
          have := getD_app d (P ++ [x]) (B ++ Q) q
          rw [getD_lt d B Q q (by omega), show (P ++ [x]).length = P.length + 1 by simp] at this
          refine Eq.trans ?_ this
          simp only [List.append_assoc, List.cons_append, List.nil_append]
        rwa [e2, e3] at this⟩
      obtain ⟨r, hr⟩ : ∃ r, r = p (B.getD q d) x := ⟨_, rfl⟩
      rw [← hr] at HL
      have HR := Aside0.mk (And.intro hr.symm (And.intro hq1 hq2))
      have hq3 : (m : Int) + (q : Int) < 1000000000 := by omega
      clear hr H hq1 hq2
      cases r with
      | false =>
        go_wp2_with (refine Calls.mono HL.out ?_; rintro e w2 ⟨rfl, h2⟩; have H := Aside0.mk h2; clear h2 HL)
        go_roundg k1
        case measure => omega
        case rel => exact ⟨i, m + q, rfl, by go_num, ⟨by have := HR.out; omega⟩, ⟨HQ.out.1, fun u h1 h2 => by
          have hp := HR.out.1
          by_cases hu : q < u
          · exact W.neg _ _ _ (srtd_get d HS.out hu h2) hp
          · rw [show u = q by omega]; exact hp⟩, H⟩
      | true =>
        go_wp2_with (refine Calls.mono HL.out ?_; rintro e w2 ⟨rfl, h2⟩; have H := Aside0.mk h2; clear h2 HL)
        go_roundg k1
        case measure => omega
        case rel => exact ⟨m + q + 1, j, by go_num, rfl, ⟨by have := HR.out; omega⟩, ⟨fun u h1 => by
          have hp := HR.out.1
          have hq := HR.out.2.2
          have hb := F.out.2.2
          by_cases hu : u < q
          · cases hc : p (B.getD u d) x with
            | true => rfl
            | false => exact absurd (W.neg _ _ _ (srtd_get d HS.out hu (by omega)) hc) (by rw [hp]; simp)
          · rw [show u = q by omega]; exact hp, HQ.out.2⟩, H⟩
    · obtain ⟨t, rfl⟩ : ∃ t, i = m + t := ⟨i - m, by omega⟩
      have c1 : decide ((m : Int) + (t : Int) < (j : Int)) = false := decide_eq_false (by omega)
      have c1b : decide (m + t < j) = false := decide_eq_false hij
      have HM : Aside0 (mrg p [x] B = B.take t ++ x :: B.drop t) := ⟨by
        have := one_mrg (p := p) x (B.take t) (B.drop t) (fun y hy => by
          obtain ⟨q, h1, h2, h3⟩ := mem_take_getD d B t hy
          rw [← h3]; exact HQ.out.1 q (by omega)) (fun y hy => by
          obtain ⟨q, h1, h2, h3⟩ := mem_drop_getD d B t hy
          rw [← h3]; exact HQ.out.2 q (by omega) h2)
        rwa [List.take_append_drop] at this⟩
      have HT := Aside0.mk (show t ≤ B.length from by have := F.out; omega)
      have hmt : (m : Int) + (t : Int) ≤ 1000000000 := by omega
      have H2 : Aside0 (St (P ++ (B.take 0 ++ x :: (B.drop 0 ++ Q))) wr) := ⟨by simpa using H.out⟩
      clear H HQ HI i1 i2 i3 i4 hij
      go_wp2_with fail
      clear c1 c1b
      have hma : Aside0 ((m : Int) = (a : Int) + 1) := ⟨by have := F.out; omega⟩
      go_loopg [11] t (fun kq v11 w' => ∃ u : Nat, v11 = .int .i64 ((a + u : Nat) : Int) ∧ Aside0 (u + kq = t) ∧ Aside0 (St (P ++ (B.take u ++ x :: (B.drop u ++ Q))) w'))
      case atStart => exact ⟨0, by go_num, ⟨by omega⟩, H2⟩
      case round =>
        clear H2
        obtain ⟨u, rfl, HU, H⟩ := hrel
        have hu0 := HU.out
        by_cases hu : u < t
        · obtain ⟨k1, rfl⟩ : ∃ m, gk = m + 1 := ⟨gk - 1, by omega⟩
          have c1 : decide ((a : Int) + (u : Int) < (m : Int) + (t : Int) - 1) = true := decide_eq_true (by have := hma.out; omega)
          have hub : u < B.length := by have := HT.out; omega
          obtain ⟨y, hy⟩ : ∃ y, B.drop u = y :: B.drop (u + 1) := ⟨B[u], by rw [← List.drop_eq_getElem_cons]⟩
          have hy2 : B.take (u + 1) = B.take u ++ [y] := by
            have e : B[u] = y := by have h2 := List.drop_eq_getElem_cons (l := B) (i := u) hub; rw [hy] at h2; injection h2 with h2; exact h2.symm
            rw [List.take_succ_eq_append_getElem hub, e]
          have H1 : Aside0 (St ((P ++ B.take u) ++ x :: ([] ++ y :: (B.drop (u + 1) ++ Q))) wr) := ⟨by have h2 := H.out; rw [hy] at h2; simpa using h2⟩
          have H3 : Aside0 (∀ w', St ((P ++ B.take u) ++ y :: ([] ++ x :: (B.drop (u + 1) ++ Q))) w' → St (P ++ (B.take (u + 1) ++ x :: (B.drop (u + 1) ++ Q))) w') := ⟨fun w' h2 => by rw [hy2]; simpa using h2⟩
          have hl : Aside0 ((P ++ B.take u).length = a + u) := ⟨by have := F.out; simp; omega⟩
          have hau : (a : Int) + (u : Int) ≤ 1000000000 := by omega
          clear H hy hy2
          go_wp2_with (refine Calls.mono (SW.out.swap_two _ _ _ _ _ H1.out (by rw [hl.out]; omega) (by rw [hl.out]; simp)) ?_; rintro e w2 ⟨rfl, h2⟩; have H := Aside0.mk (H3.out _ h2); clear h2 H1 H3)
          go_roundg k1
          case measure => omega
          case rel => exact ⟨u + 1, by go_num, ⟨by omega⟩, H⟩
        · have c1 : decide ((a : Int) + (u : Int) < (m : Int) + (t : Int) - 1) = false := decide_eq_false (by have := hma.out; omega)
          obtain rfl : u = t := by omega
          have H1 : Aside0 (St (P ++ (mrg p [x] B ++ Q)) wr) := ⟨by rw [HM.out]; simpa using H.out⟩
          clear H
          go_wp2_with fail
          refine bodyPost_ret (results_none rfl _ _ _) rfl ?_
          exact ⟨rfl, H1.out⟩

set_option maxHeartbeats 4000000 in
set_option maxRecDepth 100000 in
theorem sym_right (W : Wo p) (P A Q : List α) (x : α) (w : World) (a m b : Nat) (h : St (P ++ (A ++ (x :: Q))) w) (ha : a = P.length) (hm : m = a + A.length) (hb : b = m + 1) (hA : 1 < A.length) (hs : Srtd p A) (hz : (P ++ (A ++ (x :: Q))).length ≤ 1000000000) :
    Calls Try.prog 55 #[.iface T rv, .int .i64 a, .int .i64 m, .int .i64 b] w fun e w' => e = .returned (.tuple #[]) ∧ St (P ++ (mrg p A [x] ++ Q)) w' := by
  have hz2 : b ≤ 1000000000 ∧ a < m := by simp at hz; omega
  obtain ⟨z1, z2⟩ := hz2
  have F := Aside0.mk (And.intro ha (And.intro hm hb))
  have H := Aside0.mk h
  have HS := Aside0.mk hs
  have mL := S.mL
  have eL := S.eL
  have mS := S.mS
  have eS := S.eS
  have SW := Aside0.mk S
  have e0 : ((m : Int) - (a : Int) == 1) = false := by rw [beq_eq_false_iff_ne]; omega
  have e1 : ((b : Int) - (m : Int) == 1) = true := by rw [beq_iff_eq]; omega
  have z3 : m < b := by omega
  clear h ha hb hz S hs hm
  go_enter Try.func55, Try.ntmps55
  go_wp2_with fail
  clear e1 e0
  go_loopg [12, 13, 14] (m - a) (fun kq v8 v9 v10 w' => ∃ i j : Nat, v8 = .int .i64 i ∧ v9 = .int .i64 j ∧ Aside0 (a ≤ i ∧ i ≤ j ∧ j ≤ m ∧ j ≤ i + kq) ∧ Aside0 ((∀ q, q + a < i → p x (A.getD q d) = false) ∧ (∀ q, j ≤ q + a → q < A.length → p x (A.getD q d) = true)) ∧ Aside0 (St (P ++ (A ++ (x :: Q))) w'))
  case atStart => exact ⟨a, m, rfl, rfl, ⟨by omega⟩, ⟨fun q hq => by omega, fun q h1 h2 => by have := F.out; omega⟩, H⟩
  case round =>
    clear H
    obtain ⟨i, j, rfl, rfl, HI, HQ, H⟩ := hrel
    obtain ⟨i1, i2, i3, i4⟩ := HI.out
    by_cases hij : i < j
    · obtain ⟨k1, rfl⟩ : ∃ m, gk = m + 1 := ⟨gk - 1, by omega⟩
      have c1 : decide ((i : Int) < (j : Int)) = true := decide_eq_true (by omega)
      have c1b : decide (i < j) = true := decide_eq_true hij
      obtain ⟨q, hh, hq1, hq2⟩ : ∃ q : Nat, ((i : Int) + (j : Int)) / 2 = (a : Int) + (q : Int) ∧ i ≤ a + q ∧ a + q < j := ⟨(i + j) / 2 - a, by omega, by omega, by omega⟩
      have HL : Aside0 (Calls Try.prog gl #[rv, .int .i64 (m : Int), .int .i64 ((a : Int) + (q : Int))] wr fun e w' => e = .returned (.bool (p x (A.getD q d))) ∧ St (P ++ (A ++ (x :: Q))) w') := ⟨by
        obtain ⟨f1, f2, f3⟩ := F.out
        have := SW.out.less _ wr (P.length + A.length) (P.length + q) (m : Int) ((a : Int) + (q : Int)) H.out (by simp) (by simp; omega) (by omega) (by omega)
        have e2 := getD_mid d (P ++ A) Q x
        rw [List.length_append, List.append_assoc] at e2
        have e3 := getD_app d P (A ++ (x :: Q)) q
        rw [getD_lt d A (x :: Q) q (by omega)] at e3
        rwa [e2, e3] at this⟩
      obtain ⟨r, hr⟩ : ∃ r, r = p x (A.getD q d) := ⟨_, rfl⟩
      rw [← hr] at HL
      have HR := Aside0.mk (And.intro hr.symm (And.intro hq1 hq2))
      have hq3 : (a : Int) + (q : Int) < 1000000000 := by omega
      clear hr H hq1 hq2
      cases r with
      | true =>
        go_wp2_with (refine Calls.mono HL.out ?_; rintro e w2 ⟨rfl, h2⟩; have H := Aside0.mk h2; clear h2 HL)
        go_roundg k1
        case measure => omega
        case rel => exact ⟨i, a + q, rfl, by go_num, ⟨by have := HR.out; omega⟩, ⟨HQ.out.1, fun u h1 h2 => by
          have hp := HR.out.1
          by_cases hu : q < u
          · cases hc : p x (A.getD u d) with
            | true => rfl
            | false => exact absurd (W.neg _ _ _ hc (srtd_get d HS.out hu h2)) (by rw [hp]; simp)
          · rw [show u = q by omega]; exact hp⟩, H⟩
      | false =>
        go_wp2_with (refine Calls.mono HL.out ?_; rintro e w2 ⟨rfl, h2⟩; have H := Aside0.mk h2; clear h2 HL)
        go_roundg k1
        case measure => omega
        case rel => exact ⟨a + q + 1, j, by go_num, rfl, ⟨by have := HR.out; omega⟩, ⟨fun u h1 => by
          have hp := HR.out.1
          have hq := HR.out.2.2
          have hb := F.out.2.1
          by_cases hu : u < q
          · exact W.neg _ _ _ hp (srtd_get d HS.out hu (by omega))
          · rw [show u = q by omega]; exact hp, HQ.out.2⟩, H⟩
    · obtain ⟨t, rfl⟩ : ∃ t, i = a + t := ⟨i - a, by omega⟩
      have c1 : decide ((a : Int) + (t : Int) < (j : Int)) = false := decide_eq_false (by omega)
      have c1b : decide (a + t < j) = false := decide_eq_false hij
      have HT := Aside0.mk (show t ≤ A.length from by have := F.out; omega)
      have HM : Aside0 (mrg p A [x] = A.take t ++ x :: A.drop t) := ⟨by
        have := ins_at (p := p) x (A.take t) (A.drop t) (fun y hy => by
          obtain ⟨q, h1, h2, h3⟩ := mem_take_getD d A t hy
          rw [← h3]; exact HQ.out.1 q (by omega)) (fun y hy => by
          obtain ⟨q, h1, h2, h3⟩ := mem_drop_getD d A t (List.mem_of_mem_head? hy)
          rw [← h3]; exact HQ.out.2 q (by omega) h2)
        rw [mrg_one]
        rwa [List.take_append_drop] at this⟩
      have hmt : (a : Int) + (t : Int) ≤ (m : Int) := by omega
      have H2 : Aside0 (St (P ++ (A.take A.length ++ x :: (A.drop A.length ++ Q))) wr) := ⟨by simpa using H.out⟩
      clear H HQ HI i1 i2 i3 i4 hij
      go_wp2_with fail
      clear c1 c1b
      have hma : Aside0 ((m : Int) = (a : Int) + (A.length : Int)) := ⟨by have := F.out; omega⟩
      go_loopg [15] (A.length - t) (fun kq v11 w' => ∃ u : Nat, v11 = .int .i64 ((a + u : Nat) : Int) ∧ Aside0 (u ≤ t + kq ∧ t ≤ u ∧ u ≤ A.length) ∧ Aside0 (St (P ++ (A.take u ++ x :: (A.drop u ++ Q))) w'))
      case atStart => exact ⟨A.length, by rw [hma.out]; go_num, ⟨by have := HT.out; omega⟩, H2⟩
      case round =>
        clear H2
        obtain ⟨u, rfl, HU, H⟩ := hrel
        obtain ⟨hu0, hu1, hu2⟩ := HU.out
        have hau : (a : Int) + (u : Int) ≤ 1000000000 := by have := hma.out; omega
        by_cases hu : t < u
        · obtain ⟨k1, rfl⟩ : ∃ m, gk = m + 1 := ⟨gk - 1, by omega⟩
          have c1 : decide ((a : Int) + (t : Int) < (a : Int) + (u : Int)) = true := decide_eq_true (by omega)
          have c1b : decide (a + t < a + u) = true := decide_eq_true (by omega)
          have u0 : (1 : Int) ≤ (u : Int) := by omega
          obtain ⟨s, hsu⟩ : ∃ s, u = s + 1 := ⟨u - 1, by omega⟩
          have hub : s < A.length := by omega
          obtain ⟨y, hy⟩ : ∃ y, A.drop s = y :: A.drop (s + 1) := ⟨A[s], by rw [← List.drop_eq_getElem_cons]⟩
          have hy2 : A.take (s + 1) = A.take s ++ [y] := by
            have e : A[s] = y := by have h2 := List.drop_eq_getElem_cons (l := A) (i := s) hub; rw [hy] at h2; injection h2 with h2; exact h2.symm
            rw [List.take_succ_eq_append_getElem hub, e]
          have H1 : Aside0 (St ((P ++ A.take s) ++ y :: ([] ++ x :: (A.drop (s + 1) ++ Q))) wr) := ⟨by have h2 := H.out; rw [hsu, hy2] at h2; simpa using h2⟩
          have H3 : Aside0 (∀ w', St ((P ++ A.take s) ++ x :: ([] ++ y :: (A.drop (s + 1) ++ Q))) w' → St (P ++ (A.take s ++ x :: (A.drop s ++ Q))) w') := ⟨fun w' h2 => by rw [hy]; simpa using h2⟩
          have hl : Aside0 ((P ++ A.take s).length = a + s) := ⟨by have := F.out; simp; omega⟩
          have SU := Aside0.mk hsu
          have c1d : decide (t < u) = true := decide_eq_true hu
          clear H hy hy2 hsu hub hu0 hu1 hu2
          go_wp2_with (refine Calls.mono (SW.out.swap_back _ _ _ _ _ H1.out (by rw [hl.out]; have := SU.out; omega) (by rw [hl.out]; have := SU.out; simp; try omega)) ?_; rintro e w2 ⟨rfl, h2⟩; have H := Aside0.mk (H3.out _ h2); clear h2 H1 H3)
          go_roundg k1
          case measure => omega
          case rel => exact ⟨s, by have h9 := SU.out; go_num, ⟨by have := SU.out; have := HU.out; omega⟩, H⟩
        · obtain rfl : u = t := by omega
          have c1 : decide ((a : Int) + (u : Int) < (a : Int) + (u : Int)) = false := decide_eq_false (by omega)
          have c1b : decide (a + u < a + u) = false := decide_eq_false (by omega)
          have H1 : Aside0 (St (P ++ (mrg p A [x] ++ Q)) wr) := ⟨by rw [HM.out]; simpa using H.out⟩
          clear H
          go_wp2_with fail
          refine bodyPost_ret (results_none rfl _ _ _) rfl ?_
          exact ⟨rfl, H1.out⟩
end
end Go.Proofs.Ytopfjjdkffdjpaa.Q
