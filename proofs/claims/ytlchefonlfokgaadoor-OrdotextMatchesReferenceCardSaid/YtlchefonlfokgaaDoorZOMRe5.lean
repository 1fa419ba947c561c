/- What is proved: what the statement OrdotextMatchesReferenceSaid needs, part 6 of 12; the last part proves the statement. No condition. -/
import Derived.Test.YtlchefonlfokgaaDoorZOMRe4
import Derived.Lib.Strings
import Derived.LoopTactic
set_option maxHeartbeats 8000000
set_option maxRecDepth 100000
set_option linter.unusedVariables false
set_option linter.unusedSimpArgs false
section
namespace Go.Proofs.YtlchefonlfokgaaDoor.Q
open Go.RowKit Go.Proofs.YtlchefonlfokgaaDoorW.PrintWords Go.Proofs.YtlchefonlfokgaaDoorW.PrintLast Go.Proofs.YtlchefonlfokgaaDoorW.PrintMore
def agr (s : ByteArray) (F : Nat) (w : ByteArray) (n : Nat) : Prop := n ≤ w.size ∧ F + n ≤ s.size ∧ ∀ m, m < n → bt w (m : Int) = bt s ((F + m : Nat) : Int)
theorem agr_le {s : ByteArray} {F : Nat} {w : ByteArray} {n m : Nat} (h : agr s F w n) (hm : m ≤ n) : agr s F w m := ⟨by have := h.1; omega, by have := h.2.1; omega, fun k hk => h.2.2 k (by omega)⟩
def comL (s : ByteArray) (F : Nat) (w : ByteArray) : Nat → Nat → Nat
 | 0, n => n
 | k + 1, n => if n < w.size ∧ F + n < s.size ∧ bt s ((F + n : Nat) : Int) = bt w (n : Int) then comL s F w k (n + 1) else n
def com (s : ByteArray) (F : Nat) (w : ByteArray) : Nat := comL s F w w.size 0
theorem comL_spec {s : ByteArray} {F : Nat} {w : ByteArray} : ∀ (k n : Nat), n + k = w.size → agr s F w n → n ≤ comL s F w k n ∧ agr s F w (comL s F w k n) ∧ ¬ agr s F w (comL s F w k n + 1)
 | 0, n, hk, h => ⟨Nat.le_refl _, h, fun h2 => by have := h2.1; simp only [comL] at this; omega⟩
 | k + 1, n, hk, h => by
  rw [comL]
  split
  ·rename_i hc
   have h1 : agr s F w (n + 1) := ⟨by omega, by omega, fun m hm => by
    rcases Nat.lt_or_ge m n with h3 | h3
    ·exact h.2.2 m h3
    ·obtain rfl : m = n := by omega
     exact hc.2.2.symm⟩
   have h2 := comL_spec k (n + 1) (by omega) h1
   exact ⟨by omega, h2.2⟩
  ·rename_i hc
   exact ⟨Nat.le_refl _, h, fun h2 => hc ⟨by have := h2.1; omega, by have := h2.2.1; omega, (h2.2.2 n (by omega)).symm⟩⟩
theorem com_spec {s : ByteArray} {F : Nat} {w : ByteArray} (hF : F ≤ s.size) : agr s F w (com s F w) ∧ ¬ agr s F w (com s F w + 1) := (comL_spec w.size 0 (by omega) ⟨by omega, by omega, fun m hm => by omega⟩).2
theorem agr_iff {s : ByteArray} {F : Nat} {w : ByteArray} (hF : F ≤ s.size) (n : Nat) : agr s F w n ↔ n ≤ com s F w := by
 have h := com_spec (w := w) hF
 refine ⟨fun h1 => ?_, fun h1 => agr_le h.1 h1⟩
 rcases Nat.lt_or_ge (com s F w) n with h2 | h2
 ·exact absurd (agr_le h1 h2) h.2
 ·exact h2
theorem com_le {s : ByteArray} {F : Nat} {w : ByteArray} (hF : F ≤ s.size) : com s F w ≤ w.size ∧ F + com s F w ≤ s.size := ⟨(com_spec hF).1.1, (com_spec hF).1.2.1⟩
theorem bt_inj {s t : ByteArray} {i j : Nat} (h : i < s.size) (k : j < t.size) : bt s (i : Int) = bt t (j : Int) ↔ s[i]'h = t[j]'k := by
 have e1 : bt s (i : Int) = ((s[i]'h).toNat : Int) := by simp [bt, h]
 have e2 : bt t (j : Int) = ((t[j]'k).toNat : Int) := by simp [bt, k]
 rw [e1, e2]
 constructor
 ·intro h3; exact UInt8.toNat_inj.1 (by omega)
 ·intro h3; rw [h3]
theorem toList_eq_iff {s t : ByteArray} : s.toList = t.toList ↔ s.size = t.size ∧ ∀ m, m < s.size → bt s (m : Int) = bt t (m : Int) := by
 rw [Lib.toList_data, Lib.toList_data]
 constructor
 ·intro h
  have e : s = t := by
   cases s; cases t
   simp only at h
   congr 1
   exact Array.toList_inj.1 h
  subst e
  exact ⟨rfl, fun _ _ => rfl⟩
 ·intro ⟨h1, h2⟩
  apply List.ext_getElem
  ·rw [← Lib.size_eq, ← Lib.size_eq]; exact h1
  ·intro i h3 h4
   have h5 : i < s.size := by rw [Lib.size_eq]; exact h3
   have h6 : i < t.size := by rw [Lib.size_eq]; exact h4
   exact (bt_inj h5 h6).1 (h2 i h5)
theorem bt_extract {s : ByteArray} {a b m : Nat} (hb : b ≤ s.size) (h : a + m < b) : bt (s.extract a b) (m : Int) = bt s ((a + m : Nat) : Int) := by
 have h1 : m < (s.extract a b).size := by simp; omega
 have h2 : a + m < s.size := by omega
 exact (bt_inj h1 h2).2 (by simp [ByteArray.getElem_extract])
theorem same_iff {s w : ByteArray} {F n : Nat} (hn : n ≤ w.size) (hF : F + n ≤ s.size) : (w.extract 0 n).toList = (s.extract F (F + n)).toList ↔ ∀ m, m < n → bt w (m : Int) = bt s ((F + m : Nat) : Int) := by
 rw [toList_eq_iff]
 constructor
 ·intro ⟨h1, h2⟩ m hm
  have h3 := h2 m (by simp; omega)
  rw [bt_extract hn (by omega), bt_extract hF (by omega), Nat.zero_add] at h3
  exact h3
 ·intro h
  refine ⟨by simp; omega, fun m hm => ?_⟩
  have h4 : m < n := by simp at hm; omega
  rw [bt_extract hn (by omega), bt_extract hF (by omega), Nat.zero_add]
  exact h m h4
theorem fits_iff {s w : ByteArray} {F n : Nat} (hF : F + n < s.size) : wFits (s.extract F (F + n)) n (bt s ((F + n : Nat) : Int)) w = true ↔ agr s F w (n + 1) := by
 unfold wFits
 rw [Bool.and_eq_true, Bool.and_eq_true, decide_eq_true_iff, beq_iff_eq, beq_iff_eq]
 constructor
 ·intro ⟨h1, h2, h3⟩
  have h4 := (same_iff (by omega) (by omega)).1 h3
  refine ⟨by omega, by omega, fun m hm => ?_⟩
  rcases Nat.lt_or_ge m n with h5 | h5
  ·exact h4 m h5
  ·obtain rfl : m = n := by omega
   exact h2
 ·intro h
  exact ⟨by have := h.1; omega, h.2.2 n (by omega), (same_iff (by have := h.1; omega) (by omega)).2 (fun m hm => h.2.2 m (by omega))⟩
theorem full_iff {s w : ByteArray} {F n : Nat} (hF : F + n ≤ s.size) : w.toList = (s.extract F (F + n)).toList ↔ w.size = n ∧ agr s F w n := by
 rw [toList_eq_iff]
 constructor
 ·intro ⟨h1, h2⟩
  have h3 : w.size = n := by rw [h1]; simp; omega
  exact ⟨h3, by omega, hF, fun m hm => by rw [h2 m (by omega), bt_extract hF (by omega)]⟩
 ·intro ⟨h1, h2⟩
  exact ⟨by simp; omega, fun m hm => by rw [h2.2.2 m (by omega), bt_extract hF (by omega)]⟩
theorem scFind_spec (t : ByteArray) : ∀ (l : List ByteArray) (i : Nat) (acc : Int), (∃ k, ∃ h : k < l.length, l[k].toList = t.toList ∧ scFind t l i acc = ((i + k : Nat) : Int)) ∨ ((∀ x ∈ l, x.toList ≠ t.toList) ∧ scFind t l i acc = acc)
 | [], i, acc => .inr ⟨by simp, rfl⟩
 | x :: xs, i, acc => by
  rw [scFind]
  rcases scFind_spec t xs (i + 1) (if x.toList == t.toList then (i : Int) else acc) with ⟨k, h, h1, h2⟩ | ⟨h1, h2⟩
  ·exact .inl ⟨k + 1, by simp; omega, by simpa using h1, by rw [h2]; congr 1; omega⟩
  ·by_cases hx : x.toList = t.toList
   ·exact .inl ⟨0, by simp, by simpa using hx, by rw [h2, if_pos (by simpa using hx)]; rfl⟩
   ·refine .inr ⟨fun y hy => ?_, by rw [h2, if_neg (by simpa using hx)]⟩
    rcases List.mem_cons.1 hy with rfl | hy
    ·exact hx
    ·exact h1 y hy
def most (s : ByteArray) (F : Nat) : List ByteArray → Nat
 | [] => 0
 | w :: ws => max (com s F w) (most s F ws)
theorem most_ge {s : ByteArray} {F : Nat} : ∀ {l : List ByteArray} {w : ByteArray}, w ∈ l → com s F w ≤ most s F l
 | x :: xs, w, h => by
  rw [most]
  rcases List.mem_cons.1 h with rfl | h
  ·exact Nat.le_max_left _ _
  ·exact Nat.le_trans (most_ge h) (Nat.le_max_right _ _)
theorem most_le {s : ByteArray} {F n : Nat} : ∀ {l : List ByteArray}, (∀ w ∈ l, com s F w ≤ n) → most s F l ≤ n
 | [], _ => Nat.zero_le _
 | x :: xs, h => by rw [most]; exact Nat.max_le.2 ⟨h x (by simp), most_le (fun w hw => h w (by simp [hw]))⟩
def WR (s : ByteArray) (F : Nat) (l : List ByteArray) (r : Bool × Nat × Int) : Prop :=
 (∃ k, ∃ h : k < l.length, com s F l[k] = l[k].size ∧ r = (true, F + l[k].size, (k : Int))) ∨ ((∀ w ∈ l, com s F w ≠ w.size) ∧ r = (false, F + most s F l, -1))
theorem word_loop {s : ByteArray} {F : Nat} {l : List ByteArray} (hF : F ≤ s.size) : ∀ (k n : Nat), F + n ≤ s.size → s.size < F + n + k → (∀ w ∈ l, w.size ≤ n → com s F w ≠ w.size) → (n = 0 ∨ ∃ w ∈ l, n ≤ com s F w) → WR s F l (scWordLoop s F l k (F + n))
 | 0, n, h1, h2, h3, h4 => by omega
 | k + 1, n, h1, h2, h3, h4 => by
  rw [scWordLoop]
  by_cases ht : scTake s (F + n) (scWords s F l (F + n)) = true
  ·rw [if_pos ht]
   unfold scTake at ht
   rw [Bool.and_eq_true, decide_eq_true_iff] at ht
   obtain ⟨hlt, ht⟩ := ht
   unfold scWords at ht
   rw [Nat.add_sub_cancel_left, List.any_eq_true] at ht
   obtain ⟨w, hw, hf⟩ := ht
   have hag := (fits_iff hlt).1 hf
   rcases scFind_spec (s.extract F (F + n + 1)) l 0 (-1) with ⟨i, hi, h5, h6⟩ | ⟨h5, h6⟩
   ·rw [h6, if_neg (by omega)]
    have h7 := (full_iff (F := F) (n := n + 1) (by omega)).1 h5
    have h8 : com s F l[i] = l[i].size := by
     have h9 := (agr_iff hF _).1 h7.2
     have h10 := (com_le (w := l[i]) hF).1
     omega
    exact .inl ⟨i, hi, h8, by rw [h7.1, Nat.zero_add]; rfl⟩
   ·rw [h6, if_pos (by omega)]
    refine word_loop hF k (n + 1) (by omega) (by omega) (fun x hx hs hc => ?_) (.inr ⟨w, hw, (agr_iff hF _).1 hag⟩)
    rcases Nat.lt_or_ge n x.size with h7 | h7
    ·have h8 : x.size = n + 1 := by omega
     exact h5 x hx ((full_iff (F := F) (n := n + 1) (by omega)).2 ⟨h8, (agr_iff hF _).2 (by omega)⟩)
    ·exact h3 x hx h7 hc
  ·rw [if_neg ht]
   have hall : ∀ w ∈ l, com s F w ≤ n := by
    intro w hw
    rcases Nat.lt_or_ge n (com s F w) with h7 | h7
    ·exfalso
     apply ht
     have hag := (agr_iff (w := w) hF (n + 1)).2 (by omega)
     have hlt : F + n < s.size := by have := hag.2.1; omega
     unfold scTake scWords
     rw [Bool.and_eq_true, decide_eq_true_iff, Nat.add_sub_cancel_left, List.any_eq_true]
     exact ⟨hlt, w, hw, (fits_iff hlt).2 hag⟩
    ·exact h7
   refine .inr ⟨fun w hw hc => h3 w hw (by have := hall w hw; omega) hc, ?_⟩
   have e : most s F l = n := by
    refine Nat.le_antisymm (most_le hall) ?_
    rcases h4 with h4 | ⟨w, hw, h4⟩
    ·omega
    ·exact Nat.le_trans h4 (most_ge hw)
   rw [e]
theorem scWord_spec {s : ByteArray} {F : Nat} {l : List ByteArray} (hF : F ≤ s.size) (hne : ∀ w ∈ l, 0 < w.size) : WR s F l (scWord s F l) :=
 word_loop hF (s.size + 2) 0 (by omega) (by omega) (fun w hw h => by have := hne w hw; omega) (.inl rfl)
def Free (l : List ByteArray) : Prop := ∀ (i : Nat) (hi : i < l.length) (j : Nat) (hj : j < l.length), i ≠ j → ¬ (l[i].size ≤ l[j].size ∧ ∀ m, m < l[i].size → bt l[i] (m : Int) = bt l[j] (m : Int))
theorem WR_one {s : ByteArray} {F : Nat} {l : List ByteArray} (hF : F ≤ s.size) (hp : Free l) {r r' : Bool × Nat × Int} (h : WR s F l r) (h' : WR s F l r') : r = r' := by
 rcases h with ⟨i, hi, h1, rfl⟩ | ⟨h1, rfl⟩
 ·rcases h' with ⟨j, hj, h2, rfl⟩ | ⟨h2, rfl⟩
  ·have e : i = j := by
    by_cases e : i = j
    ·exact e
    ·exfalso
     have a1 := (agr_iff (w := l[i]) hF l[i].size).2 (by omega)
     have a2 := (agr_iff (w := l[j]) hF l[j].size).2 (by omega)
     rcases Nat.le_total l[i].size l[j].size with h | h
     ·exact hp i hi j hj e ⟨h, fun m hm => (a1.2.2 m hm).trans (a2.2.2 m (by omega)).symm⟩
     ·exact hp j hj i hi (fun e2 => e e2.symm) ⟨h, fun m hm => (a2.2.2 m hm).trans (a1.2.2 m (by omega)).symm⟩
   subst e
   rfl
  ·exact absurd h1 (h2 _ (List.getElem_mem hi))
 ·rcases h' with ⟨j, hj, h2, rfl⟩ | ⟨h2, rfl⟩
  ·exact absurd h2 (h1 _ (List.getElem_mem hj))
  ·rfl
end Go.Proofs.YtlchefonlfokgaaDoor.Q
end
section
namespace Go.Proofs.YtlchefonlfokgaaDoor.Q
open Go.RowKit Go.Proofs.YtlchefonlfokgaaDoorW.PrintWords Go.Proofs.YtlchefonlfokgaaDoorW.PrintLast Go.Proofs.YtlchefonlfokgaaDoorW.PrintMore
structure IsDec (t : ByteArray) (m : Nat) : Prop where
 pos : 0 < t.size
 dig : ∀ i, i < t.size → 48 ≤ bt t (i : Int) ∧ bt t (i : Int) ≤ 57
 val : scVal t t.size 0 0 = (m : Int)
 lead : 0 < m → 49 ≤ bt t 0
 zero : m = 0 → t.size = 1 ∧ bt t 0 = 48
def dgt (d : Nat) : ByteArray := (⟨#[48, 49, 50, 51, 52, 53, 54, 55, 56, 57]⟩ : ByteArray).extract d (d + 1)
theorem dgt_spec : ∀ d, d < 10 → (dgt d).size = 1 ∧ bt (dgt d) ((0 : Nat) : Int) = 48 + (d : Int) := by decide +kernel
theorem IsDec.one {d : Nat} (h : d < 10) : IsDec (dgt d) d := by
 obtain ⟨h1, h2⟩ := dgt_spec d h
 refine ⟨by omega, fun i hi => ?_, ?_, fun h3 => ?_, fun h3 => ?_⟩
 ·obtain rfl : i = 0 := by omega
  omega
 ·rw [h1]
  show 10 * 0 + (bt (dgt d) ((0 : Nat) : Int) - 48) = _
  omega
 ·have : bt (dgt d) 0 = bt (dgt d) ((0 : Nat) : Int) := rfl
  omega
 ·have : bt (dgt d) 0 = bt (dgt d) ((0 : Nat) : Int) := rfl
  exact ⟨h1, by omega⟩
end Go.Proofs.YtlchefonlfokgaaDoor.Q
end
section
namespace Go.Proofs.YtlchefonlfokgaaDoor.Q
open Go.RowKit Go.Proofs.YtlchefonlfokgaaDoorW.PrintWords Go.Proofs.YtlchefonlfokgaaDoorW.PrintLast Go.Proofs.YtlchefonlfokgaaDoorW.PrintMore
end Go.Proofs.YtlchefonlfokgaaDoor.Q
end
section
namespace Go.Proofs.YtlchefonlfokgaaDoor.Q
open Go.RowKit Go.Proofs.YtlchefonlfokgaaDoorW.PrintWords Go.Proofs.YtlchefonlfokgaaDoorW.PrintLast Go.Proofs.YtlchefonlfokgaaDoorW.PrintMore
theorem r25_digit0 (s : ByteArray) (a : Int) (w : World) (r : Bool) (h0 : 0 ≤ a) (hr : (decide (a < (s.size : Int)) && pDigit (bt s a)) = r) : Calls Tryd.prog 82 #[.string s, .int .i64 a] w fun e w' => e = .returned (.bool r) ∧ w = w' := by
 by_cases h : a < (s.size : Int)
 ·have c1 : decide (a < (s.size : Int)) = true := decide_eq_true h
  have hx := bt_at s a
  rw [c1, Bool.true_and] at hr
  unfold pDigit at hr
  replace h0 := eq_true h0
  replace h := eq_true h
  by_cases h2 : 48 ≤ bt s a
  ·have c2 : decide (48 ≤ bt s a) = true := decide_eq_true h2
   rw [c2, Bool.true_and] at hr
   subst hr
   clear h2
   go_enter Tryd.func82, Tryd.ntmps82
   go_wp2
   go_ret
   exact ⟨rfl, rfl⟩
  ·have c2 : decide (48 ≤ bt s a) = false := decide_eq_false h2
   rw [c2, Bool.false_and] at hr
   subst hr
   clear h2
   go_enter Tryd.func82, Tryd.ntmps82
   go_wp2
   go_ret
   exact ⟨rfl, rfl⟩
 ·have c1 : decide (a < (s.size : Int)) = false := decide_eq_false h
  rw [c1, Bool.false_and] at hr
  subst hr
  clear h
  go_enter Tryd.func82, Tryd.ntmps82
  go_wp2
  go_ret
  exact ⟨rfl, rfl⟩
theorem r25_letter0 (s : ByteArray) (a : Int) (w : World) (r : Bool) (h0 : 0 ≤ a) (hr : (decide (a < (s.size : Int)) && pLetter (bt s a)) = r) : Calls Tryd.prog 83 #[.string s, .int .i64 a] w fun e w' => e = .returned (.bool r) ∧ w = w' := by
 by_cases h : a < (s.size : Int)
 ·have c1 : decide (a < (s.size : Int)) = true := decide_eq_true h
  have hx := bt_at s a
  rw [c1, Bool.true_and] at hr
  unfold pLetter at hr
  replace h0 := eq_true h0
  replace h := eq_true h
  by_cases h2 : 97 ≤ bt s a
  ·have c2 : decide (97 ≤ bt s a) = true := decide_eq_true h2
   rw [c2, Bool.true_and] at hr
   subst hr
   clear h2
   go_enter Tryd.func83, Tryd.ntmps83
   go_wp2
   go_ret
   exact ⟨rfl, rfl⟩
  ·have c2 : decide (97 ≤ bt s a) = false := decide_eq_false h2
   rw [c2, Bool.false_and] at hr
   subst hr
   clear h2
   go_enter Tryd.func83, Tryd.ntmps83
   go_wp2
   go_ret
   exact ⟨rfl, rfl⟩
 ·have c1 : decide (a < (s.size : Int)) = false := decide_eq_false h
  rw [c1, Bool.false_and] at hr
  subst hr
  clear h
  go_enter Tryd.func83, Tryd.ntmps83
  go_wp2
  go_ret
  exact ⟨rfl, rfl⟩
theorem r25_fail (s : ByteArray) (F : Int) (b : Bool) (i : Int) (w : World) : Calls Tryd.prog 62 #[.agg #[.string s, .int .i64 F, .bool b], .int .i64 i] w fun e w' => e = .returned (.agg #[.string s, .int .i64 i, .bool true]) ∧ w' = (w.alloc (.cells #[.string s, .int .i64 F, .bool b] 54)).alloc (.cells #[.string s, .int .i64 i, .bool true] 54) := by
 go_enter Tryd.func62, Tryd.ntmps62
 go_wp2
 exact bodyPost_ret (v := .agg #[.string s, .int .i64 i, .bool true]) (by simp [results, Tryd.results62, go_sem]) rfl ⟨rfl, rfl⟩
theorem r25_at {s : ByteArray} {a : Int} {F : Nat} (ha : a = (F : Int)) (p : Int → Bool) : scTake s F p = (decide (a < (s.size : Int)) && p (bt s a)) := by
 subst ha
 simp only [scTake]
 congr 1
 rw [decide_eq_decide]; omega
def nNeg (s : ByteArray) (F : Nat) : Bool := scTake s F (pIs 45)
def nAt (s : ByteArray) (F : Nat) : Nat := if nNeg s F then F + 1 else F
theorem scNum_no {s : ByteArray} {F : Nat} (h0 : scTake s F (pIs 48) = false) (h : scTake s (nAt s F) pLeading = false) : scNum s F = (false, nAt s F, 0) := by
 unfold nAt nNeg at *
 rw [scNum, if_neg (by rw [h0]; simp)]
 by_cases h1 : scTake s F (pIs 45) = true
 ·rw [if_pos h1] at h
  rw [if_pos h1, if_neg (by rw [h]; simp), if_pos h1]
 ·rw [if_neg h1] at h
  rw [if_neg h1, if_neg (by rw [h]; simp), if_neg h1]
theorem scNum_yes {s : ByteArray} {F : Nat} (h0 : scTake s F (pIs 48) = false) (h : scTake s (nAt s F) pLeading = true) : scNum s F = (true, scRun pDigit s 9 (nAt s F + 1), if nNeg s F then -(scVal s (scRun pDigit s 9 (nAt s F + 1) - nAt s F) (nAt s F) 0) else scVal s (scRun pDigit s 9 (nAt s F + 1) - nAt s F) (nAt s F) 0) := by
 unfold nAt nNeg at *
 rw [scNum, if_neg (by rw [h0]; simp)]
 by_cases h1 : scTake s F (pIs 45) = true
 ·rw [if_pos h1] at h
  simp only [if_pos h1, if_pos h]
 ·rw [if_neg h1] at h
  simp only [if_neg h1, if_pos h]
theorem lead_dig {s : ByteArray} {i : Nat} : scTake s i pLeading = (scTake s i pDigit && !(bt s (i : Int) == 48)) := by
 unfold scTake pLeading pDigit
 rw [Bool.eq_iff_iff]
 simp only [Bool.and_eq_true, decide_eq_true_iff, Bool.not_eq_true', beq_eq_false_iff_ne]
 constructor
 ·intro ⟨h1, h2, h3⟩; exact ⟨⟨h1, by omega, h3⟩, by omega⟩
 ·intro ⟨⟨h1, h2, h3⟩, h4⟩; exact ⟨h1, by omega, h3⟩
theorem r25_number (s : ByteArray) (F : Nat) (w : World) (hs : s.size ≤ 4611686018427387904) (J : Int) (B : Bool) (V : Int) (hJ : J = ((scNum s F).2.1 : Int)) (hB : (scNum s F).1 = B) (hV : V = if (scNum s F).1 then (scNum s F).2.2 else 0) :
  Calls Tryd.prog 63 #[.agg #[.string s, .int .i64 F, .bool false]] w fun e w' => e = .returned (.tuple #[.agg #[.string s, .int .i64 J, .bool (!B)], .int .i64 V]) ∧ Below w.heap.size w w' := by
 obtain ⟨a, ha⟩ : ∃ a : Int, a = (F : Int) := ⟨_, rfl⟩
 have h48 := r25_at (s := s) ha (pIs 48)
 have h45 := r25_at (s := s) ha (pIs 45)
 have ha0 : 0 ≤ a := by omega
 rw [← ha]
 have HHS := Aside0.mk hs
 have HA := Aside0.mk ha
 have HJ := Aside0.mk hJ
 have HBB := Aside0.mk hB
 have HV := Aside0.mk hV
 clear hJ hB hV
 -- behind the sign: digits from j on
 have hrest : ∀ (N : Bool) (j : Int), Aside0 (scTake s F (pIs 48) = false) → Aside0 (nNeg s F = N) → Aside0 (j = (nAt s F : Int)) → Aside0 (N = N) := fun _ _ _ _ _ => ⟨rfl⟩
 clear hrest
 have hz : (decide (a < (s.size : Int)) && (bt s a == 48)) = true ∨ (decide (a < (s.size : Int)) && (bt s a == 48)) = false := by cases (decide (a < (s.size : Int)) && (bt s a == 48)) <;> simp
 rcases hz with hz | hz
 ·have e : scNum s F = (true, F + 1, 0) := by rw [scNum, if_pos (by rw [h48]; exact hz)]
  have hJ := HJ.out
  have hB := HBB.out
  have hV := HV.out
  rw [e] at hJ hB hV
  simp only [if_true] at hV
  obtain rfl : J = a + 1 := by rw [hJ, ha]; rfl
  subst hB hV
  simp only [Bool.and_eq_true, decide_eq_true_eq] at hz
  have hlt := hz.1
  have h9 := hz.2
  have c1 : decide (a < (s.size : Int)) = true := decide_eq_true hlt
  have hx := bt_at s a
  have hw1 : IntKind.i64.wrap (a + 1) = a + 1 := IntWalk.i64_in _ (by omega)
  clear hJ e h48 h45 hs hz ha HJ HBB HV
  replace ha0 := eq_true ha0
  replace hlt := eq_true hlt
  go_enter Tryd.func63, Tryd.ntmps63
  go_wp2
  exact bodyPost_ret (v := .tuple #[.agg #[.string s, .int .i64 (a + 1), .bool (!true)], .int .i64 0]) (by simp [results, Tryd.results63, go_sem]) rfl ⟨rfl, ((Below.refl _ _).alloc (Nat.le_refl _) _).alloc (by simp) _⟩
 ·have h0 : scTake s F (pIs 48) = false := by rw [h48]; exact hz
  have H0 := Aside0.mk h0
  obtain ⟨N, hN⟩ : ∃ N, N = nNeg s F := ⟨_, rfl⟩
  obtain ⟨j, hj⟩ : ∃ j : Int, j = (nAt s F : Int) := ⟨_, rfl⟩
  have HN := Aside0.mk hN
  have HJJ := Aside0.mk hj
  have hN2 : N = (decide (a < (s.size : Int)) && (bt s a == 45)) := by rw [hN, nNeg, h45]; rfl
  have hj2 : j = if N then a + 1 else a := by rw [hj, nAt, ← hN, ha]; cases N <;> rfl
  have hjb : 0 ≤ j ∧ (j ≤ (s.size : Int) ∨ j = a) := by
   rw [hj2]; cases N with
   | false => exact ⟨ha0, .inr rfl⟩
   | true =>
    have h3 := hN2.symm
    rw [Bool.and_eq_true, decide_eq_true_eq] at h3
    exact ⟨by simp; omega, .inl (by simp; omega)⟩
  clear hN hj h0 h48 h45 ha
  go_enter Tryd.func63, Tryd.ntmps63
  go_upto_region 4 with (fail)
  go_cut [24] (fun v24 wc => v24 = .bool false ∧ wc = ((w.alloc (.cells #[.string s, .int .i64 a, .bool false] 54)).alloc (.cells #[.string ⟨#[]⟩, .int .i64 0, .bool false] 54)))
  case first =>
   clear hj2 hN2 hjb
   by_cases hlt : a < (s.size : Int)
   ·have c1 : decide (a < (s.size : Int)) = true := decide_eq_true hlt
    rw [c1, Bool.true_and] at hz
    have hx := bt_at s a
    clear hs
    replace ha0 := eq_true ha0
    replace hlt := eq_true hlt
    go_wp2
    go_meet
    case rel => exact ⟨rfl, rfl⟩
   ·have c1 : decide (a < (s.size : Int)) = false := decide_eq_false hlt
    clear hs hlt hz
    go_wp2
    go_meet
    case rel => exact ⟨rfl, rfl⟩
  case rest =>
   obtain ⟨rfl, rfl⟩ := hcut
   clear hz
   go_upto_region 6 with (fail)
   go_cut [5] (fun v5 wc => v5 = .bool N ∧ wc = ((w.alloc (.cells #[.string s, .int .i64 a, .bool false] 54)).alloc (.cells #[.string ⟨#[]⟩, .int .i64 0, .bool false] 54)))
   case first =>
    clear hj2 hjb
    by_cases hlt : a < (s.size : Int)
    ·have c1 : decide (a < (s.size : Int)) = true := decide_eq_true hlt
     rw [c1, Bool.true_and] at hN2
     have hx := bt_at s a
     clear hs
     replace ha0 := eq_true ha0
     replace hlt := eq_true hlt
     have hN3 := hN2.symm
     clear hN2
     go_wp2
     go_meet
     case rel => exact ⟨rfl, rfl⟩
    ·have c1 : decide (a < (s.size : Int)) = false := decide_eq_false hlt
     rw [c1, Bool.false_and] at hN2
     subst hN2
     clear hs hlt
     go_wp2
     go_meet
     case rel => exact ⟨rfl, rfl⟩
   case rest =>
    obtain ⟨rfl, rfl⟩ := hcut
    go_upto_if 42 with (fail)
    go_cut [4] (fun v4 wc => v4 = .int .i64 j ∧ wc = ((w.alloc (.cells #[.string s, .int .i64 a, .bool false] 54)).alloc (.cells #[.string ⟨#[]⟩, .int .i64 0, .bool false] 54)))
    case first =>
     cases N with
     | true =>
      simp only [if_true] at hj2
      have hw1 : IntKind.i64.wrap (a + 1) = a + 1 := IntWalk.i64_in _ (by omega)
      subst hj2
      clear hN2 hjb hs
      go_wp2
      go_meet
      case rel => exact ⟨rfl, rfl⟩
     | false =>
      simp only [Bool.false_eq_true, if_false] at hj2
      subst hj2
      clear hN2 hjb hs
      go_wp2
      go_meet
      case rel => exact ⟨rfl, rfl⟩
    case rest =>
     obtain ⟨rfl, rfl⟩ := hcut
     have HJ0 := Aside0.mk hjb.1
     have HD : Aside0 ((decide (j < (s.size : Int)) && pDigit (bt s j)) = scTake s (nAt s F) pDigit) := ⟨(r25_at HJJ.out pDigit).symm⟩
     have hld := lead_dig (s := s) (i := nAt s F)
     rw [← HJJ.out] at hld
     obtain ⟨D, hD⟩ : ∃ D, D = scTake s (nAt s F) pDigit := ⟨_, rfl⟩
     rw [← hD] at HD hld
     have HDD := Aside0.mk hD
     have HHL := Aside0.mk hld
     clear hD hld hj2 hN2
     cases D with
     | false =>
      have e := scNum_no H0.out (by rw [HHL.out]; rfl)
      have hJ := HJ.out
      have hB := HBB.out
      have hV := HV.out
      rw [e] at hJ hB hV
      have hJ2 : J = j := by rw [hJ, HJJ.out]
      subst hB hV
      subst hJ2
      clear hJ e hs hjb HV HBB HJ ha0
      go_wp2_with (first | (go_at_call 82; (with_reducible refine (r25_digit0 _ _ _ false HJ0.out HD.out).mono ?_); rintro e w1 ⟨rfl, rfl⟩) | (go_at_call 62; (with_reducible refine (r25_fail _ _ _ _ _).mono ?_); rintro e w1 ⟨rfl, rfl⟩))
      exact bodyPost_ret (v := .tuple #[.agg #[.string s, .int .i64 J, .bool true], .int .i64 0]) (by simp [results, Tryd.results63, go_sem]) rfl ⟨rfl, ((((Below.refl _ _).alloc (Nat.le_refl _) _).alloc (by simp) _).alloc (by simp; omega) _).alloc (by simp; omega) _⟩
     | true =>
      have hjs : j < (s.size : Int) := by have h3 := HD.out; rw [Bool.and_eq_true, decide_eq_true_eq] at h3; exact h3.1
      have hx := bt_at s j
      have hj0 := eq_true HJ0.out
      have hjl := eq_true hjs
      obtain ⟨Z, hZ⟩ : ∃ Z, Z = (bt s j == 48) := ⟨_, rfl⟩
      rw [← hZ] at HHL
      cases Z with
      | true =>
       have e := scNum_no H0.out (by rw [HHL.out]; rfl)
       have hJ := HJ.out
       have hB := HBB.out
       have hV := HV.out
       rw [e] at hJ hB hV
       have hJ2 : J = j := by rw [hJ, HJJ.out]
       subst hB hV
       subst hJ2
       have hZ2 := hZ.symm
       clear hJ e hs hjb HV HBB HJ ha0 hZ hjs
       go_wp2_with (first | (go_at_call 82; (with_reducible refine (r25_digit0 _ _ _ true HJ0.out HD.out).mono ?_); rintro e w1 ⟨rfl, rfl⟩) | (go_at_call 62; (with_reducible refine (r25_fail _ _ _ _ _).mono ?_); rintro e w1 ⟨rfl, rfl⟩))
       exact bodyPost_ret (v := .tuple #[.agg #[.string s, .int .i64 J, .bool true], .int .i64 0]) (by simp [results, Tryd.results63, go_sem]) rfl ⟨rfl, ((((Below.refl _ _).alloc (Nat.le_refl _) _).alloc (by simp) _).alloc (by simp; omega) _).alloc (by simp; omega) _⟩
      | false =>
       have e := scNum_yes H0.out (by rw [HHL.out]; rfl)
       have hJ := HJ.out
       have hB := HBB.out
       have hV := HV.out
       rw [e] at hJ hB hV
       subst hB
       simp only [if_true] at hJ hV
       have hZ2 := hZ.symm
       obtain ⟨R, hR⟩ : ∃ R, R = scRun pDigit s 9 (nAt s F + 1) := ⟨_, rfl⟩
       rw [← hR] at hJ hV
       rw [← HN.out] at hV
       obtain ⟨VV, hVV⟩ : ∃ VV, VV = scVal s (R - nAt s F) (nAt s F) 0 := ⟨_, rfl⟩
       rw [← hVV] at hV
       have HRR : Aside0 (scRun pDigit s 10 j.toNat = R) := ⟨by rw [HJJ.out, Int.toNat_natCast, scRun, if_pos HDD.out.symm, hR]⟩
       have HVV : Aside0 (scVal s (R - j.toNat) j.toNat 0 = VV) := ⟨by rw [HJJ.out, Int.toNat_natCast, hVV]⟩
       have HJJ2 := Aside0.mk hJ
       have HV2 := Aside0.mk hV
       have HJS := Aside0.mk hjs
       clear hJ e hs hjb HV HBB HJ ha0 hZ hjs hR hVV hV
       go_wp2_with (first | (go_at_call 82; (with_reducible refine (r25_digit0 _ _ _ true HJ0.out HD.out).mono ?_); rintro e w1 ⟨rfl, rfl⟩))
       clear hx hj0 hjl hZ2
       go_loopg [4, 6, 7] 10 (fun kq v4 v6 v7 w' => ∃ (jj acc c : Int), v4 = .int .i64 jj ∧ v6 = .int .i64 acc ∧ v7 = .int .i64 c ∧ Aside0 ((c + kq = 10 ∧ 0 ≤ c) ∧ 0 ≤ jj ∧ jj ≤ s.size ∧ 0 ≤ acc ∧ acc < 10 ^ (10 - kq)) ∧ Aside0 (scRun pDigit s kq jj.toNat = R) ∧ Aside0 (scVal s (R - jj.toNat) jj.toNat acc = VV) ∧ w' = ((w.alloc (.cells #[.string s, .int .i64 a, .bool false] 54)).alloc (.cells #[.string ⟨#[]⟩, .int .i64 0, .bool false] 54)))
       case atStart => exact ⟨j, 0, 0, rfl, rfl, rfl, ⟨⟨by omega, by omega⟩, HJ0.out, by have := HJS.out; omega, by omega, by decide⟩, HRR, HVV, rfl⟩
       case round =>
        clear HRR HVV
        obtain ⟨jj, acc, c, rfl, rfl, rfl, HC, HRR, HVV, rfl⟩ := hrel
        have HJJ0 : Aside0 (0 ≤ jj) := ⟨HC.out.2.1⟩
        cases gk with
        | zero =>
         have hc10 : c = 10 := by have := HC.out.1; omega
         subst hc10
         have hacb : acc ≤ 9999999999 := by have := HC.out.2.2.2.2; simp at this; omega
         have eR : R = jj.toNat := HRR.out.symm
         have eV : VV = acc := by rw [← HVV.out, eR, Nat.sub_self]; rfl
         have hJ2 : J = jj := by rw [HJJ2.out, eR]; have := HJJ0.out; omega
         have hac : 0 ≤ acc := HC.out.2.2.2.1
         have hac2 : acc ≤ 9999999999 := hacb
         have hng : IntKind.i64.wrap (-acc) = -acc := IntWalk.i64_in _ (by omega)
         have hV2 := HV2.out
         rw [eV] at hV2
         subst hJ2
         clear eR eV HJJ2 HV2 HRR HVV hacb HJJ HC HHL HDD
         cases N with
         | true =>
          simp only [if_true] at hV2
          subst hV2
          go_wp2_with (fail)
          exact bodyPost_ret (v := .tuple #[.agg #[.string s, .int .i64 J, .bool false], .int .i64 (-acc)]) (by simp [results, Tryd.results63, go_sem]) rfl ⟨rfl, ((Below.refl _ _).alloc (Nat.le_refl _) _).alloc (by simp) _⟩
         | false =>
          simp only [Bool.false_eq_true, if_false] at hV2
          subst hV2
          go_wp2_with (fail)
          exact bodyPost_ret (v := .tuple #[.agg #[.string s, .int .i64 J, .bool false], .int .i64 V]) (by simp [results, Tryd.results63, go_sem]) rfl ⟨rfl, ((Below.refl _ _).alloc (Nat.le_refl _) _).alloc (by simp) _⟩
        | succ gk =>
         have hclt : decide (c < 10) = true := decide_eq_true (by have := HC.out.1; omega)
         have hpw : acc ≤ 999999999 := by
          have h3 := HC.out.2.2.2.2
          have h4 : (10 : Int) ^ (10 - (gk + 1)) ≤ 10 ^ 9 := by exact_mod_cast Nat.pow_le_pow_right (n := 10) (by decide) (by omega : 10 - (gk + 1) ≤ 9)
          have h5 : (10 : Int) ^ 9 = 1000000000 := by decide
          omega
         have HPW := Aside0.mk hpw
         have hjn : jj = (jj.toNat : Int) := by have := HJJ0.out; omega
         obtain ⟨D, hD⟩ : ∃ D, D = scTake s jj.toNat pDigit := ⟨_, rfl⟩
         have HDG : Aside0 ((decide (jj < (s.size : Int)) && pDigit (bt s jj)) = D) := ⟨by rw [hD]; exact (r25_at hjn pDigit).symm⟩
         have HD2 := Aside0.mk hD
         clear hD hjn
         cases D with
         | false =>
          have eR : R = jj.toNat := by rw [← HRR.out, scRun, if_neg (by rw [← HD2.out]; simp)]
          have eV : VV = acc := by rw [← HVV.out, eR, Nat.sub_self]; rfl
          have hacb : acc ≤ 9999999999 := by omega
          clear hpw
          have hJ2 : J = jj := by rw [HJJ2.out, eR]; have := HJJ0.out; omega
          have hac : 0 ≤ acc := HC.out.2.2.2.1
          have hac2 : acc ≤ 9999999999 := hacb
          have hng : IntKind.i64.wrap (-acc) = -acc := IntWalk.i64_in _ (by omega)
          have hV2 := HV2.out
          rw [eV] at hV2
          subst hJ2
          clear eR eV HJJ2 HV2 HRR HVV hacb HJJ HC HHL HDD
          cases N with
          | true =>
           simp only [if_true] at hV2
           subst hV2
           go_wp2_with (go_at_call 82; (with_reducible refine (r25_digit0 _ _ _ false HJJ0.out HDG.out).mono ?_); rintro e w1 ⟨rfl, rfl⟩)
           exact bodyPost_ret (v := .tuple #[.agg #[.string s, .int .i64 J, .bool false], .int .i64 (-acc)]) (by simp [results, Tryd.results63, go_sem]) rfl ⟨rfl, ((Below.refl _ _).alloc (Nat.le_refl _) _).alloc (by simp) _⟩
          | false =>
           simp only [Bool.false_eq_true, if_false] at hV2
           subst hV2
           go_wp2_with (go_at_call 82; (with_reducible refine (r25_digit0 _ _ _ false HJJ0.out HDG.out).mono ?_); rintro e w1 ⟨rfl, rfl⟩)
           exact bodyPost_ret (v := .tuple #[.agg #[.string s, .int .i64 J, .bool false], .int .i64 V]) (by simp [results, Tryd.results63, go_sem]) rfl ⟨rfl, ((Below.refl _ _).alloc (Nat.le_refl _) _).alloc (by simp) _⟩
         | true =>
          have hjs : jj < (s.size : Int) := by have h3 := HDG.out; rw [Bool.and_eq_true, decide_eq_true_eq] at h3; exact h3.1
          have hdd : 48 ≤ bt s jj ∧ bt s jj ≤ 57 := by have h3 := HDG.out; simp only [pDigit, Bool.and_eq_true, decide_eq_true_eq] at h3; exact h3.2
          have b1 := hdd.1
          have b2 := hdd.2
          have hj0 := HJJ0.out
          have hac : 0 ≤ acc := HC.out.2.2.2.1
          have hss := HHS.out
          have hc0 := HC.out.1
          have q1 : IntKind.i64.wrap (10 * acc) = 10 * acc := IntWalk.i64_in _ (by omega)
          have q2 : IntKind.i64.wrap (bt s jj) = bt s jj := IntWalk.i64_in _ (by omega)
          have q3 : IntKind.i64.wrap (10 * acc + bt s jj) = 10 * acc + bt s jj := IntWalk.i64_in _ (by omega)
          have q4 : IntKind.i64.wrap (10 * acc + bt s jj - 48) = 10 * acc + bt s jj - 48 := IntWalk.i64_in _ (by omega)
          have q5 : IntKind.i64.wrap (jj + 1) = jj + 1 := IntWalk.i64_in _ (by omega)
          have q6 : IntKind.i64.wrap (c + 1) = c + 1 := IntWalk.i64_in _ (by omega)
          have hx := bt_at s jj
          have HJL := Aside0.mk hjs
          have HB12 := Aside0.mk hdd
          replace hj0 := eq_true hj0
          replace hjs := eq_true hjs
          clear hpw hdd hss hc0 b1 b2 hac
          go_wp2_with (go_at_call 82; (with_reducible refine (r25_digit0 _ _ _ true HJJ0.out HDG.out).mono ?_); rintro e w1 ⟨rfl, rfl⟩)
          go_roundg gk
          case measure => omega
          case rel =>
           have hj1 : (jj + 1).toNat = jj.toNat + 1 := by have := HJJ0.out; omega
           have h2 := HRR.out
           rw [scRun, if_pos HD2.out.symm] at h2
           refine ⟨jj + 1, 10 * acc + bt s jj - 48, c + 1, rfl, rfl, rfl, ⟨⟨by have := HC.out.1; omega, by have := HC.out.1; omega⟩, by have := HJJ0.out; omega, by have := HJL.out; omega, by have := HB12.out; have := HC.out.2.2.2.1; omega, ?_⟩, ⟨by rw [hj1]; exact h2⟩, ⟨?_⟩, rfl⟩
           ·have h3 := HC.out.2.2.2.2
            have hg : gk + 1 ≤ 10 := by have := HC.out.1; omega
            rw [show 10 - gk = (10 - (gk + 1)) + 1 by omega, Int.pow_succ]
            have := HB12.out
            omega
           ·rw [← HVV.out, hj1]
            have hge := (scRun_spec pDigit s gk (jj.toNat + 1) (by have := HJL.out; have := HJJ0.out; omega)).1
            rw [h2] at hge
            rw [show R - jj.toNat = (R - (jj.toNat + 1)) + 1 by omega, scVal, show ((jj.toNat : Nat) : Int) = jj by have := HJJ0.out; omega, show 10 * acc + (bt s jj - 48) = 10 * acc + bt s jj - 48 by omega]
theorem r25_ident (s : ByteArray) (F : Nat) (w : World) (hs : s.size ≤ 4611686018427387904) (J : Int) (B : Bool) (X : ByteArray) (hJ : J = ((scIdent s F).2 : Int)) (hB : (scIdent s F).1 = B) (hX : X = if B then s.extract F (scIdent s F).2 else ⟨#[]⟩) :
  Calls Tryd.prog 68 #[.agg #[.string s, .int .i64 F, .bool false]] w fun e w' => e = .returned (.tuple #[.agg #[.string s, .int .i64 J, .bool (!B)], .string X]) ∧ Below w.heap.size w w' := by
 obtain ⟨a, ha⟩ : ∃ a : Int, a = (F : Int) := ⟨_, rfl⟩
 rw [← ha]
 have HHS := Aside0.mk hs
 have HA := Aside0.mk ha
 have HA0 : Aside0 (0 ≤ a) := ⟨by omega⟩
 obtain ⟨L0, hL0⟩ : ∃ L, L = scTake s F pLetter := ⟨_, rfl⟩
 have HL0 : Aside0 ((decide (a < (s.size : Int)) && pLetter (bt s a)) = L0) := ⟨by rw [hL0]; exact (r25_at ha pLetter).symm⟩
 cases L0 with
 | false =>
  have e : scIdent s F = (false, F) := by rw [scIdent, if_neg (by rw [← hL0]; simp)]
  rw [e] at hJ hB hX
  subst hB
  simp only [Bool.false_eq_true, if_false] at hX
  have hJ2 : J = a := by rw [hJ, ha]
  subst hJ2 hX
  clear hJ e hs ha hL0
  go_enter Tryd.func68, Tryd.ntmps68
  go_wp2_with (first | (go_at_call 83; (with_reducible refine (r25_letter0 _ _ _ false HA0.out HL0.out).mono ?_); rintro e w1 ⟨rfl, rfl⟩) | (go_at_call 62; (with_reducible refine (r25_fail _ _ _ _ _).mono ?_); rintro e w1 ⟨rfl, rfl⟩))
  exact bodyPost_ret (v := .tuple #[.agg #[.string s, .int .i64 J, .bool true], .string ⟨#[]⟩]) (by simp [results, Tryd.results68, go_sem]) rfl ⟨rfl, ((((Below.refl _ _).alloc (Nat.le_refl _) _).alloc (by simp) _).alloc (by simp; omega) _).alloc (by simp; omega) _⟩
 | true =>
  obtain ⟨R, hR⟩ : ∃ R, R = scIdLoop s F 39 (F + 1) := ⟨_, rfl⟩
  have e : scIdent s F = R := by rw [scIdent, if_pos hL0.symm, hR]
  rw [e] at hJ hB hX
  have HJJ := Aside0.mk hJ
  have HBB := Aside0.mk hB
  have HX := Aside0.mk hX
  have hlt0 := scTake_lt hL0.symm
  have HLT := Aside0.mk hlt0
  have ha1 : IntKind.i64.wrap (a + 1) = a + 1 := IntWalk.i64_in _ (by omega)
  have HRR : Aside0 (scIdLoop s F 39 (a + 1).toNat = R) := ⟨by rw [hR, ha]; rfl⟩
  clear hJ hB hX e hR hL0 hlt0 hs ha
  go_enter Tryd.func68, Tryd.ntmps68
  go_wp2_with (first | (go_at_call 83; (with_reducible refine (r25_letter0 _ _ _ true HA0.out HL0.out).mono ?_); rintro e w1 ⟨rfl, rfl⟩))
  clear ha1
  go_loopg [4] 39 (fun kq v4 w' => ∃ (jj : Int), v4 = .int .i64 jj ∧ Aside0 (a + 40 ≤ jj + kq ∧ a < jj ∧ jj ≤ s.size) ∧ Aside0 (scIdLoop s F kq jj.toNat = R) ∧ w' = ((w.alloc (.cells #[.string s, .int .i64 a, .bool false] 54)).alloc (.cells #[.string ⟨#[]⟩, .int .i64 0, .bool false] 54)))
  case atStart => exact ⟨a + 1, rfl, ⟨by omega, by omega, by have := HLT.out; have := HA.out; omega⟩, HRR, rfl⟩
  case round =>
   clear HRR HLT
   obtain ⟨jj, rfl, HC, HR, rfl⟩ := hrel
   have HJ0 : Aside0 (0 ≤ jj) := ⟨by have := HA0.out; have := HC.out.2.1; omega⟩
   have hw1 : IntKind.i64.wrap (jj - a) = jj - a := IntWalk.i64_in _ (by have := HA0.out; have := HC.out; have := HHS.out; omega)
   have hw2 : IntKind.i64.wrap (jj + 1) = jj + 1 := IntWalk.i64_in _ (by have := HA0.out; have := HC.out; have := HHS.out; omega)
   have hjn : jj = (jj.toNat : Int) := by have := HJ0.out; omega
   have HJN := Aside0.mk hjn
   by_cases h40 : jj - a < 40
   ·have c40 : decide (jj - a < 40) = true := decide_eq_true h40
    obtain ⟨kq, rfl⟩ : ∃ k, gk = k + 1 := ⟨gk - 1, by have := HC.out.1; omega⟩
    have hR2 := HR.out
    rw [scIdLoop, if_pos (show jj.toNat < F + 40 by have := HA.out; omega)] at hR2
    by_cases hlt : jj < (s.size : Int)
    ·have cl : decide (jj < (s.size : Int)) = true := decide_eq_true hlt
     obtain ⟨L, hL⟩ : ∃ L, L = scTake s jj.toNat pLetter := ⟨_, rfl⟩
     have HL : Aside0 ((decide (jj < (s.size : Int)) && pLetter (bt s jj)) = L) := ⟨by rw [hL]; exact (r25_at hjn pLetter).symm⟩
     obtain ⟨D, hD⟩ : ∃ D, D = scTake s jj.toNat pDigit := ⟨_, rfl⟩
     have HD : Aside0 ((decide (jj < (s.size : Int)) && pDigit (bt s jj)) = D) := ⟨by rw [hD]; exact (r25_at hjn pDigit).symm⟩
     have hP : scTake s jj.toNat pPart = (L || D) := by rw [hL, hD]; simp only [scTake, pPart]; cases decide (jj.toNat < s.size) <;> simp
     rw [hP] at hR2
     have hx := bt_at s jj
     have hj0 := eq_true HJ0.out
     have HLT := Aside0.mk hlt
     have hjl := eq_true hlt
     clear hlt hjn hP h40
     have hcase : L = true ∨ (L = false ∧ D = true) ∨ (L = false ∧ D = false) := by cases L <;> cases D <;> simp
     rcases hcase with rfl | ⟨rfl, rfl⟩ | ⟨rfl, rfl⟩
     ·have HR2 : Aside0 (scIdLoop s F kq (jj.toNat + 1) = R) := ⟨by rw [if_pos (by rfl)] at hR2; exact hR2⟩
      clear hL hD hx
      clear hR2
      go_wp2_with (first | (go_at_call 83; (with_reducible refine (r25_letter0 _ _ _ true HJ0.out HL.out).mono ?_); rintro e w1 ⟨rfl, rfl⟩))
      go_roundg kq
      case measure => omega
      case rel => exact ⟨jj + 1, rfl, ⟨by have := HC.out; omega, by have := HC.out; omega, by have := HLT.out; omega⟩, ⟨by rw [show (jj + 1).toNat = jj.toNat + 1 by have := HJ0.out; omega]; exact HR2.out⟩, rfl⟩
     ·have HR2 : Aside0 (scIdLoop s F kq (jj.toNat + 1) = R) := ⟨by rw [if_pos (by rfl)] at hR2; exact hR2⟩
      clear hL hD hx
      clear hR2
      go_wp2_with (first | (go_at_call 83; (with_reducible refine (r25_letter0 _ _ _ false HJ0.out HL.out).mono ?_); rintro e w1 ⟨rfl, rfl⟩) | (go_at_call 82; (with_reducible refine (r25_digit0 _ _ _ true HJ0.out HD.out).mono ?_); rintro e w1 ⟨rfl, rfl⟩))
      go_roundg kq
      case measure => omega
      case rel => exact ⟨jj + 1, rfl, ⟨by have := HC.out; omega, by have := HC.out; omega, by have := HLT.out; omega⟩, ⟨by rw [show (jj + 1).toNat = jj.toNat + 1 by have := HJ0.out; omega]; exact HR2.out⟩, rfl⟩
     ·rw [if_neg (by simp)] at hR2
      clear hL hD
      have h45 := r25_at (s := s) HJN.out (pIs 45)
      rw [cl, Bool.true_and] at h45
      obtain ⟨Z, hZ⟩ : ∃ Z, Z = (bt s jj == 45) := ⟨_, rfl⟩
      have hZ2 := hZ.symm
      have hZ3 : (bt s jj != 45) = !Z := by rw [hZ]; rfl
      have h45' : scTake s jj.toNat (pIs 45) = Z := by rw [h45, hZ]; rfl
      rw [h45'] at hR2
      clear h45 h45' hZ
      by_cases h39 : jj - a < 39
      ·have c39 : (jj - a == 39) = false := by rw [beq_eq_false_iff_ne]; omega
       have h39' : jj.toNat < F + 39 := by have := HA.out; have := HJ0.out; omega
       cases Z with
       | true =>
        rw [if_pos ⟨h39', rfl⟩] at hR2
        have HJ1 : Aside0 (0 ≤ jj + 1) := ⟨by have := HJ0.out; omega⟩
        have hjn1 : jj + 1 = ((jj.toNat + 1 : Nat) : Int) := by have := HJ0.out; omega
        obtain ⟨L1, hL1⟩ : ∃ L, L = scTake s (jj.toNat + 1) pLetter := ⟨_, rfl⟩
        have HL1 : Aside0 ((decide (jj + 1 < (s.size : Int)) && pLetter (bt s (jj + 1))) = L1) := ⟨by rw [hL1]; exact (r25_at hjn1 pLetter).symm⟩
        obtain ⟨D1, hD1⟩ : ∃ D, D = scTake s (jj.toNat + 1) pDigit := ⟨_, rfl⟩
        have HD1 : Aside0 ((decide (jj + 1 < (s.size : Int)) && pDigit (bt s (jj + 1))) = D1) := ⟨by rw [hD1]; exact (r25_at hjn1 pDigit).symm⟩
        have hP1 : scTake s (jj.toNat + 1) pPart = (L1 || D1) := by rw [hL1, hD1]; simp only [scTake, pPart]; cases decide (jj.toNat + 1 < s.size) <;> simp
        rw [hP1] at hR2
        have HLL : Aside0 ((L1 || D1) = true → jj + 1 < (s.size : Int)) := ⟨fun h => by rw [← hP1] at h; have := scTake_lt h; omega⟩
        have hw3 : IntKind.i64.wrap (jj + 1 + 1) = jj + 1 + 1 := IntWalk.i64_in _ (by have := HA0.out; have := HC.out; have := HHS.out; omega)
        clear hL1 hD1 hP1 hjn1 h39 h39'
        have hcase : L1 = true ∨ (L1 = false ∧ D1 = true) ∨ (L1 = false ∧ D1 = false) := by cases L1 <;> cases D1 <;> simp
        rcases hcase with rfl | ⟨rfl, rfl⟩ | ⟨rfl, rfl⟩
        ·have HR2 : Aside0 (scIdLoop s F kq (jj.toNat + 2) = R) := ⟨by rw [if_pos (by rfl)] at hR2; exact hR2⟩
         have HLT : Aside0 (jj + 1 < (s.size : Int)) := ⟨HLL.out rfl⟩
         clear hR2
         go_wp2_with (first | (go_at_call 83; (with_reducible refine (r25_letter0 _ _ _ false HJ0.out HL.out).mono ?_); rintro e w1 ⟨rfl, rfl⟩) | (go_at_call 82; (with_reducible refine (r25_digit0 _ _ _ false HJ0.out HD.out).mono ?_); rintro e w1 ⟨rfl, rfl⟩) | (go_at_call 83; (with_reducible refine (r25_letter0 _ _ _ true HJ1.out HL1.out).mono ?_); rintro e w1 ⟨rfl, rfl⟩))
         go_roundg kq
         case measure => omega
         case rel => exact ⟨jj + 1 + 1, rfl, ⟨by have := HC.out; omega, by have := HC.out; omega, by have := HLT.out; omega⟩, ⟨by rw [show (jj + 1 + 1).toNat = jj.toNat + 2 by have := HJ0.out; omega]; exact HR2.out⟩, rfl⟩
        ·have HR2 : Aside0 (scIdLoop s F kq (jj.toNat + 2) = R) := ⟨by rw [if_pos (by rfl)] at hR2; exact hR2⟩
         have HLT : Aside0 (jj + 1 < (s.size : Int)) := ⟨HLL.out rfl⟩
         clear hR2
         go_wp2_with (first | (go_at_call 83; (with_reducible refine (r25_letter0 _ _ _ false HJ0.out HL.out).mono ?_); rintro e w1 ⟨rfl, rfl⟩) | (go_at_call 82; (with_reducible refine (r25_digit0 _ _ _ false HJ0.out HD.out).mono ?_); rintro e w1 ⟨rfl, rfl⟩) | (go_at_call 83; (with_reducible refine (r25_letter0 _ _ _ false HJ1.out HL1.out).mono ?_); rintro e w1 ⟨rfl, rfl⟩) | (go_at_call 82; (with_reducible refine (r25_digit0 _ _ _ true HJ1.out HD1.out).mono ?_); rintro e w1 ⟨rfl, rfl⟩))
         go_roundg kq
         case measure => omega
         case rel => exact ⟨jj + 1 + 1, rfl, ⟨by have := HC.out; omega, by have := HC.out; omega, by have := HLT.out; omega⟩, ⟨by rw [show (jj + 1 + 1).toNat = jj.toNat + 2 by have := HJ0.out; omega]; exact HR2.out⟩, rfl⟩
        ·rw [if_neg (by simp)] at hR2
         have eR : R = (false, jj.toNat + 1) := hR2.symm
         clear hR2
         have hJ2 : J = jj + 1 := by rw [HJJ.out, eR]; have := HJ0.out; show ((jj.toNat + 1 : Nat) : Int) = jj + 1; omega
         have hB2 : B = false := by rw [← HBB.out, eR]
         have hX2 : X = ⟨#[]⟩ := by rw [HX.out, hB2]; rfl
         subst hB2 hX2
         clear eR HR HX HBB HJJ
         go_wp2_with (first | (go_at_call 83; (with_reducible refine (r25_letter0 _ _ _ false HJ0.out HL.out).mono ?_); rintro e w1 ⟨rfl, rfl⟩) | (go_at_call 82; (with_reducible refine (r25_digit0 _ _ _ false HJ0.out HD.out).mono ?_); rintro e w1 ⟨rfl, rfl⟩) | (go_at_call 83; (with_reducible refine (r25_letter0 _ _ _ false HJ1.out HL1.out).mono ?_); rintro e w1 ⟨rfl, rfl⟩) | (go_at_call 82; (with_reducible refine (r25_digit0 _ _ _ false HJ1.out HD1.out).mono ?_); rintro e w1 ⟨rfl, rfl⟩) | (go_at_call 62; (with_reducible refine (r25_fail _ _ _ _ _).mono ?_); rintro e w1 ⟨rfl, rfl⟩))
         exact bodyPost_ret (v := .tuple #[.agg #[.string s, .int .i64 (jj + 1), .bool true], .string ⟨#[]⟩]) (by simp [results, Tryd.results68, go_sem]) rfl ⟨by rw [hJ2]; rfl, ((((Below.refl _ _).alloc (Nat.le_refl _) _).alloc (by simp) _).alloc (by simp; omega) _).alloc (by simp; omega) _⟩
       | false =>
        rw [if_neg (fun h => absurd h.2 (by simp))] at hR2
        have eR : R = (true, jj.toNat) := hR2.symm
        clear hR2 h39 h39'
        have hJ2 : J = jj := by rw [HJJ.out, eR]; have := HJ0.out; show ((jj.toNat : Nat) : Int) = jj; omega
        have hB2 : B = true := by rw [← HBB.out, eR]
        have hX2 : X = s.extract a.toNat jj.toNat := by rw [HX.out, ← HBB.out, eR, if_pos rfl, HA.out]; rfl
        subst hB2 hX2
        have k1 := HA0.out
        have k2 := HJ0.out
        have k3 : a ≤ jj := by have := HC.out.2.1; omega
        have k4 : jj ≤ (s.size : Int) := HC.out.2.2
        clear eR HR HX HBB HJJ
        go_wp2_with (first | (go_at_call 83; (with_reducible refine (r25_letter0 _ _ _ false HJ0.out HL.out).mono ?_); rintro e w1 ⟨rfl, rfl⟩) | (go_at_call 82; (with_reducible refine (r25_digit0 _ _ _ false HJ0.out HD.out).mono ?_); rintro e w1 ⟨rfl, rfl⟩))
        go_region_held3 (fun w' => w'.cell? ⟨w.heap.size, 0, none⟩ = some (.string s) ∧ w'.cell? ⟨w.heap.size, 1, none⟩ = some (.int .i64 a)) (go_keep) (fail)
        go_wp2
        exact bodyPost_ret (v := .tuple #[.agg #[.string s, .int .i64 jj, .bool false], .string (s.extract a.toNat jj.toNat)]) (by simp [results, Tryd.results68, go_sem]) rfl ⟨by rw [hJ2]; rfl, (((Below.refl _ _).alloc (Nat.le_refl _) _).alloc (by simp) _).drew⟩
      ·have eR : R = (true, jj.toNat) := by rw [if_neg (fun h => h39 (by have := HA.out; have := HJ0.out; omega))] at hR2; exact hR2.symm
       have c39 : (jj - a == 39) = true := by rw [beq_iff_eq]; have := of_decide_eq_true c40; omega
       clear hR2 h39
       cases Z with
       | true =>
        have hJ2 : J = jj := by rw [HJJ.out, eR]; have := HJ0.out; show ((jj.toNat : Nat) : Int) = jj; omega
        have hB2 : B = true := by rw [← HBB.out, eR]
        have hX2 : X = s.extract a.toNat jj.toNat := by rw [HX.out, ← HBB.out, eR, if_pos rfl, HA.out]; rfl
        subst hB2 hX2
        have k1 := HA0.out
        have k2 := HJ0.out
        have k3 : a ≤ jj := by have := HC.out.2.1; omega
        have k4 : jj ≤ (s.size : Int) := HC.out.2.2
        clear eR HR HX HBB HJJ
        go_wp2_with (first | (go_at_call 83; (with_reducible refine (r25_letter0 _ _ _ false HJ0.out HL.out).mono ?_); rintro e w1 ⟨rfl, rfl⟩) | (go_at_call 82; (with_reducible refine (r25_digit0 _ _ _ false HJ0.out HD.out).mono ?_); rintro e w1 ⟨rfl, rfl⟩))
        go_region_held3 (fun w' => w'.cell? ⟨w.heap.size, 0, none⟩ = some (.string s) ∧ w'.cell? ⟨w.heap.size, 1, none⟩ = some (.int .i64 a)) (go_keep) (fail)
        go_wp2
        exact bodyPost_ret (v := .tuple #[.agg #[.string s, .int .i64 jj, .bool false], .string (s.extract a.toNat jj.toNat)]) (by simp [results, Tryd.results68, go_sem]) rfl ⟨by rw [hJ2]; rfl, (((Below.refl _ _).alloc (Nat.le_refl _) _).alloc (by simp) _).drew⟩
       | false =>
        have hJ2 : J = jj := by rw [HJJ.out, eR]; have := HJ0.out; show ((jj.toNat : Nat) : Int) = jj; omega
        have hB2 : B = true := by rw [← HBB.out, eR]
        have hX2 : X = s.extract a.toNat jj.toNat := by rw [HX.out, ← HBB.out, eR, if_pos rfl, HA.out]; rfl
        subst hB2 hX2
        have k1 := HA0.out
        have k2 := HJ0.out
        have k3 : a ≤ jj := by have := HC.out.2.1; omega
        have k4 : jj ≤ (s.size : Int) := HC.out.2.2
        clear eR HR HX HBB HJJ
        go_wp2_with (first | (go_at_call 83; (with_reducible refine (r25_letter0 _ _ _ false HJ0.out HL.out).mono ?_); rintro e w1 ⟨rfl, rfl⟩) | (go_at_call 82; (with_reducible refine (r25_digit0 _ _ _ false HJ0.out HD.out).mono ?_); rintro e w1 ⟨rfl, rfl⟩))
        go_region_held3 (fun w' => w'.cell? ⟨w.heap.size, 0, none⟩ = some (.string s) ∧ w'.cell? ⟨w.heap.size, 1, none⟩ = some (.int .i64 a)) (go_keep) (fail)
        go_wp2
        exact bodyPost_ret (v := .tuple #[.agg #[.string s, .int .i64 jj, .bool false], .string (s.extract a.toNat jj.toNat)]) (by simp [results, Tryd.results68, go_sem]) rfl ⟨by rw [hJ2]; rfl, (((Below.refl _ _).alloc (Nat.le_refl _) _).alloc (by simp) _).drew⟩
    ·have cl : decide (jj < (s.size : Int)) = false := decide_eq_false hlt
     have hn : ∀ p, scTake s jj.toNat p = false := fun p => by unfold scTake; rw [decide_eq_false (by omega), Bool.false_and]
     rw [hn, if_neg (by simp), if_neg (fun h => by have := h.2; rw [hn] at this; exact absurd this (by simp))] at hR2
     have eR : R = (true, jj.toNat) := hR2.symm
     clear hR2 hn hjn h40 hlt
     have hJ2 : J = jj := by rw [HJJ.out, eR]; have := HJ0.out; show ((jj.toNat : Nat) : Int) = jj; omega
     have hB2 : B = true := by rw [← HBB.out, eR]
     have hX2 : X = s.extract a.toNat jj.toNat := by rw [HX.out, ← HBB.out, eR, if_pos rfl, HA.out]; rfl
     subst hB2 hX2
     have k1 := HA0.out
     have k2 := HJ0.out
     have k3 : a ≤ jj := by have := HC.out.2.1; omega
     have k4 : jj ≤ (s.size : Int) := HC.out.2.2
     clear eR HR HX HBB HJJ
     go_wp2_with (fail)
     go_region_held3 (fun w' => w'.cell? ⟨w.heap.size, 0, none⟩ = some (.string s) ∧ w'.cell? ⟨w.heap.size, 1, none⟩ = some (.int .i64 a)) (go_keep) (fail)
     go_wp2
     exact bodyPost_ret (v := .tuple #[.agg #[.string s, .int .i64 jj, .bool false], .string (s.extract a.toNat jj.toNat)]) (by simp [results, Tryd.results68, go_sem]) rfl ⟨by rw [hJ2]; rfl, (((Below.refl _ _).alloc (Nat.le_refl _) _).alloc (by simp) _).drew⟩
   ·have c40 : decide (jj - a < 40) = false := decide_eq_false h40
    have eR : R = (true, jj.toNat) := by rw [← HR.out, scIdLoop_stop (by have := HA.out; omega)]
    clear hjn h40
    have hJ2 : J = jj := by rw [HJJ.out, eR]; have := HJ0.out; show ((jj.toNat : Nat) : Int) = jj; omega
    have hB2 : B = true := by rw [← HBB.out, eR]
    have hX2 : X = s.extract a.toNat jj.toNat := by rw [HX.out, ← HBB.out, eR, if_pos rfl, HA.out]; rfl
    subst hB2 hX2
    have k1 := HA0.out
    have k2 := HJ0.out
    have k3 : a ≤ jj := by have := HC.out.2.1; omega
    have k4 : jj ≤ (s.size : Int) := HC.out.2.2
    clear eR HR HX HBB HJJ
    go_wp2_with (fail)
    go_region_held3 (fun w' => w'.cell? ⟨w.heap.size, 0, none⟩ = some (.string s) ∧ w'.cell? ⟨w.heap.size, 1, none⟩ = some (.int .i64 a)) (go_keep) (fail)
    go_wp2
    exact bodyPost_ret (v := .tuple #[.agg #[.string s, .int .i64 jj, .bool false], .string (s.extract a.toNat jj.toNat)]) (by simp [results, Tryd.results68, go_sem]) rfl ⟨by rw [hJ2]; rfl, (((Below.refl _ _).alloc (Nat.le_refl _) _).alloc (by simp) _).drew⟩
end Go.Proofs.YtlchefonlfokgaaDoor.Q
end
section
namespace Go.Proofs.YtlchefonlfokgaaDoor.Q
open Go.RowKit Go.Proofs.YtlchefonlfokgaaDoorW.PrintWords Go.Proofs.YtlchefonlfokgaaDoorW.PrintLast Go.Proofs.YtlchefonlfokgaaDoorW.PrintMore
theorem r25_number_bad (s : ByteArray) (a : Int) (w : World) :
  Calls Tryd.prog 63 #[.agg #[.string s, .int .i64 a, .bool true]] w fun e w' => e = .returned (.tuple #[.agg #[.string s, .int .i64 a, .bool true], .int .i64 0]) ∧ Below w.heap.size w w' := by
 go_enter Tryd.func63, Tryd.ntmps63
 go_wp2
 exact bodyPost_ret (v := .tuple #[.agg #[.string s, .int .i64 a, .bool true], .int .i64 0]) (by simp [results, Tryd.results63, go_sem]) rfl ⟨rfl, ((Below.refl _ _).alloc (Nat.le_refl _) _).alloc (by simp) _⟩
theorem r25_ident_bad (s : ByteArray) (a : Int) (w : World) :
  Calls Tryd.prog 68 #[.agg #[.string s, .int .i64 a, .bool true]] w fun e w' => e = .returned (.tuple #[.agg #[.string s, .int .i64 a, .bool true], .string ⟨#[]⟩]) ∧ Below w.heap.size w w' := by
 go_enter Tryd.func68, Tryd.ntmps68
 go_wp2
 exact bodyPost_ret (v := .tuple #[.agg #[.string s, .int .i64 a, .bool true], .string ⟨#[]⟩]) (by simp [results, Tryd.results68, go_sem]) rfl ⟨rfl, ((Below.refl _ _).alloc (Nat.le_refl _) _).alloc (by simp) _⟩
def computusref25_Number.f (a0_0 : ByteArray) (a0_1 : Int) (a0_2 : Bool) : Option (ByteArray × Int × Bool × Int) :=
 if a0_2 = true then some (a0_0, a0_1, a0_2, 0)
 else if 0 ≤ a0_1 ∧ a0_0.size ≤ 4611686018427387904 then some (a0_0, ((scNum a0_0 a0_1.toNat).2.1 : Int), !(scNum a0_0 a0_1.toNat).1, if (scNum a0_0 a0_1.toNat).1 then (scNum a0_0 a0_1.toNat).2.2 else 0)
 else none
theorem computusref25_Number.calls (a0_0 : ByteArray) (a0_1 : Int) (a0_2 : Bool) (r1 : ByteArray) (r2 : Int) (r3 : Bool) (r4 : Int) (w : World) (h : computusref25_Number.f a0_0 a0_1 a0_2 = some (r1, r2, r3, r4)) :
  Calls Tryd.prog 63 #[.agg #[.string a0_0, .int .i64 a0_1, .bool a0_2]] w fun e w' => e = .returned (.tuple #[.agg #[.string r1, .int .i64 r2, .bool r3], .int .i64 r4]) ∧ Below w.heap.size w w' := by
 unfold computusref25_Number.f at h
 cases a0_2 with
 | true =>
  rw [if_pos rfl] at h
  obtain ⟨rfl, rfl, rfl, rfl⟩ : a0_0 = r1 ∧ a0_1 = r2 ∧ true = r3 ∧ 0 = r4 := by simpa using h
  exact r25_number_bad _ _ w
 | false =>
  rw [if_neg (by simp)] at h
  by_cases hc : 0 ≤ a0_1 ∧ a0_0.size ≤ 4611686018427387904
  ·rw [if_pos hc] at h
   obtain ⟨i, rfl⟩ : ∃ i : Nat, a0_1 = (i : Int) := ⟨a0_1.toNat, by omega⟩
   rw [Int.toNat_natCast] at h
   simp only [Option.some.injEq, Prod.mk.injEq] at h
   obtain ⟨rfl, rfl, rfl, rfl⟩ := h
   exact r25_number a0_0 i w hc.2 _ _ _ rfl rfl rfl
  ·rw [if_neg hc] at h
   exact absurd h (by simp)
def computusref25_Identifier.f (a0_0 : ByteArray) (a0_1 : Int) (a0_2 : Bool) : Option (ByteArray × Int × Bool × ByteArray) :=
 if a0_2 = true then some (a0_0, a0_1, a0_2, ⟨#[]⟩)
 else if 0 ≤ a0_1 ∧ a0_0.size ≤ 4611686018427387904 then some (a0_0, ((scIdent a0_0 a0_1.toNat).2 : Int), !(scIdent a0_0 a0_1.toNat).1, if (scIdent a0_0 a0_1.toNat).1 then a0_0.extract a0_1.toNat (scIdent a0_0 a0_1.toNat).2 else ⟨#[]⟩)
 else none
theorem computusref25_Identifier.calls (a0_0 : ByteArray) (a0_1 : Int) (a0_2 : Bool) (r1 : ByteArray) (r2 : Int) (r3 : Bool) (r4 : ByteArray) (w : World) (h : computusref25_Identifier.f a0_0 a0_1 a0_2 = some (r1, r2, r3, r4)) :
  Calls Tryd.prog 68 #[.agg #[.string a0_0, .int .i64 a0_1, .bool a0_2]] w fun e w' => e = .returned (.tuple #[.agg #[.string r1, .int .i64 r2, .bool r3], .string r4]) ∧ Below w.heap.size w w' := by
 unfold computusref25_Identifier.f at h
 cases a0_2 with
 | true =>
  rw [if_pos rfl] at h
  obtain ⟨rfl, rfl, rfl, rfl⟩ : a0_0 = r1 ∧ a0_1 = r2 ∧ true = r3 ∧ ⟨#[]⟩ = r4 := by simpa using h
  exact r25_ident_bad _ _ w
 | false =>
  rw [if_neg (by simp)] at h
  by_cases hc : 0 ≤ a0_1 ∧ a0_0.size ≤ 4611686018427387904
  ·rw [if_pos hc] at h
   obtain ⟨i, rfl⟩ : ∃ i : Nat, a0_1 = (i : Int) := ⟨a0_1.toNat, by omega⟩
   rw [Int.toNat_natCast] at h
   simp only [Option.some.injEq, Prod.mk.injEq] at h
   obtain ⟨rfl, rfl, rfl, rfl⟩ := h
   exact r25_ident a0_0 i w hc.2 _ _ _ rfl rfl rfl
  ·rw [if_neg hc] at h
   exact absurd h (by simp)
end Go.Proofs.YtlchefonlfokgaaDoor.Q
end
section
namespace Go.Proofs.YtlchefonlfokgaaDoor.Q
open Go.RowKit Go.Proofs.YtlchefonlfokgaaDoorW.PrintWords Go.Proofs.YtlchefonlfokgaaDoorW.PrintLast Go.Proofs.YtlchefonlfokgaaDoorW.PrintMore
attribute [local go_sem] max2_int min2_int max_two min_two max_three min_three max_four min_four
def computusref26_Number.f (k : Nat) (a0_0 : ByteArray) (a0_1 : Int) (a0_2 : Bool) : Option (ByteArray × Int × Bool × Int) := (computusref25_Word.f k a0_0 a0_1 a0_2 (([(⟨#[32]⟩ : ByteArray)] : List ByteArray))).bind fun bt148 => ((computusref25_Number.f bt148.1 bt148.2.1 bt148.2.2.1).bind fun bt153 => (some (bt153.1, bt153.2.1, bt153.2.2.1, bt153.2.2.2)))
theorem computusref26_Number.calls (k : Nat) (a0_0 : ByteArray) (a0_1 : Int) (a0_2 : Bool) (r1 : ByteArray) (r2 : Int) (r3 : Bool) (r4 : Int) (w : World) (h : computusref26_Number.f k a0_0 a0_1 a0_2 = some (r1, r2, r3, r4)) :
  Calls Tryd.prog 27 #[.agg #[.string a0_0, .int .i64 a0_1, .bool a0_2]] w fun e w' => e = .returned (.tuple #[.agg #[.string r1, .int .i64 r2, .bool r3], .int .i64 r4]) ∧ Below w.heap.size w w' := by
 have hu54 := Tryd.underlying54
 have HB := am_ (Below.refl w.heap.size w)
 have H := h
 clear h
 unfold computusref26_Number.f at H
 obtain ⟨y145, hy145⟩ : ∃ y_ : List ByteArray, y_ = (([(⟨#[32]⟩ : ByteArray)] : List ByteArray)) := ⟨_, rfl⟩
 replace H : ((computusref25_Word.f k a0_0 a0_1 a0_2 y145).bind fun bt148 => ((computusref25_Number.f bt148.1 bt148.2.1 bt148.2.2.1).bind fun bt153 => (some (bt153.1, bt153.2.1, bt153.2.2.1, bt153.2.2.2)))) = some (r1, r2, r3, r4) := by first | (rw [hy145]; with_reducible exact H) | (have H2_ := (Option.bind_some _ _).symm.trans H; rw [hy145]; with_reducible exact H2_) | (have H2_ := (Option.bind_some _ _).symm.trans H; with_reducible exact H2_) | with_reducible exact H | (rw [hy145]; exact H) | exact H
 have Ny145 := am_ hy145
 clear hy145
 obtain ⟨⟨t148, t149, t150, t151⟩, A2, H⟩ := bs_ H
 dsimp only at H
 obtain ⟨⟨t153, t154, t155, t156⟩, A3, H⟩ := bs_ H
 dsimp only at H
 simp only [Option.some.injEq, Prod.mk.injEq] at H
 obtain ⟨rfl, rfl, rfl, rfl⟩ := H
 go_enter Tryd.func27, Tryd.ntmps27
 go_wp2_with (first | ((with_reducible refine gate_dst (N := 1) rfl ?_); refine bx_ (w := w) (N := 1) (cs := #[.string a0_0, .int .i64 a0_1, .bool a0_2]) (t := 54) ?_; intro gb143 w4 BK143 n0_ GW143 GE143; clear HB; have HB := n0_; clear n0_) | ((with_reducible refine gate_dst (N := 2) rfl ?_); refine be_ (N := 2) (cs := #[.string (⟨#[]⟩ : ByteArray), .int .i64 0, .bool false]) (t := 54) ?_; intro gb144 hg w5 hbox hb; have BK144 := am_ (hbox); have GW144 := gw_ (w := w) hg; have GE144 := gw_ (w := w) hg; replace HB := bt_ hb; have NB143_144 := ne_ hg BK143; have NB144_143 := nf_ hg BK143; replace BK143 := bw_ BK143 hb; clear hb hbox hg; have hnb6 := NB143_144.out; have hnc6 := NB144_143.out; obtain ⟨hcz7_0, hcz7_1, hcz7_2⟩ := cz3_ BK143.out; obtain ⟨hfz7_0, hfz7_1, hfz7_2⟩ := fz3_ BK143.out) | ((with_reducible refine gate_dst (N := 8) rfl ?_); refine Kd.R_lit Kd.string _ 9 ?hg (N := 8) ?hd (xs := ([(⟨#[32]⟩ : ByteArray)] : List ByteArray)) (inner := [.string (⟨#[32]⟩ : ByteArray)]) (ok := fun _ => True) (okp := fun _ => True) ?hr ?hp (fun _ hk => hk) trivial (Below.refl _ _) (Nat.le_refl _) (by simp) ?_; (case hd => rfl); (case hg => rfl); (case hr => first | (go_simp; done) | (go_simp; rfl)); (case hp => exact (Reps.one (show Kd.M Kd.string _ _ _ (⟨#[32]⟩ : ByteArray) [.string (⟨#[32]⟩ : ByteArray)] from rfl) (Reps.none _ _))); intro v146 w8 ho9 hb hg_ hnew_; clear hg_ hnew_; (first | rw [← Ny145.out] at ho9 | (simp only [Int.reduceToNat] at ho9; rw [← Ny145.out] at ho9)); have HO147 := am_ (Kd.R_lower ho9 bz_); replace BK143 := bw_ BK143 hb; replace BK144 := bw_ BK144 hb; replace HB := bt_ hb; clear hb ho9; obtain ⟨Ao10, co10, eo10⟩ := Kd.R_slice HO147.out; subst eo10) | ((with_reducible refine gate_callee (f := 26) rfl ?_); refine goesL_ (some 9) rfl rfl Tryd.func26 (by kernel_rfl) rfl #[.agg #[.string a0_0, .int .i64 a0_1, .bool a0_2], .slice Ao10 y145.length co10] rfl (by (try simp only [List.map_toArray, List.map_cons, List.map_nil]); first | done | rfl | (simp only [List.length_drop, List.length_take]; rfl)) ?_; (with_reducible refine (computusref25_Word.calls k a0_0 a0_1 a0_2 _ _ y145 t148 t149 t150 t151 _ ?side1 ?side2 A2.out).mono ?_); (case side1 => exact ck_ (Kd.R_reads' HO147.out).2.2); (case side2 => exact (Kd.R_reads' HO147.out).2.1); rintro e w11 ⟨rfl, hb⟩; refine ⟨_, rfl, ?_⟩; replace HO147 := rw_ HO147 hb; replace BK143 := bw_ BK143 hb; replace BK144 := bw_ BK144 hb; replace HB := bt_ hb; (try clear hb); (try clear hk); (try clear hi)) | ((with_reducible refine gate_dst (N := 4) rfl ?_); refine be_ (N := 4) (cs := #[.string (⟨#[]⟩ : ByteArray), .int .i64 0, .bool false]) (t := 54) ?_; intro gb152 hg w12 hbox hb; replace HO147 := rw_ HO147 hb; have BK152 := am_ (hbox); have GW152 := gw_ (w := w) hg; have GE152 := gw_ (w := w) hg; replace HB := bt_ hb; have NB143_152 := ne_ hg BK143; have NB152_143 := nf_ hg BK143; replace BK143 := bw_ BK143 hb; have NB144_152 := ne_ hg BK144; have NB152_144 := nf_ hg BK144; replace BK144 := bw_ BK144 hb; clear hb hbox hg; have hnb13 := NB152_143.out; have hnc13 := NB143_152.out; have hnb14 := NB152_144.out; have hnc14 := NB144_152.out; obtain ⟨hcz15_0, hcz15_1, hcz15_2⟩ := cz3_ BK152.out; obtain ⟨hfz15_0, hfz15_1, hfz15_2⟩ := fz3_ BK152.out) | ((with_reducible refine gate_callee (f := 63) rfl ?_); refine goesL_ (some 13) rfl rfl Tryd.func63 (by kernel_rfl) rfl #[.agg #[.string t148, .int .i64 t149, .bool t150]] rfl (by (try simp only [List.map_toArray, List.map_cons, List.map_nil]); first | done | rfl | (simp only [List.length_drop, List.length_take]; rfl)) ?_; (with_reducible refine (computusref25_Number.calls t148 t149 t150 t153 t154 t155 t156 _ A3.out).mono ?_); rintro e w16 ⟨rfl, hb⟩; refine ⟨_, rfl, ?_⟩; replace HO147 := am_ (Kd.R_below (fa_ HO147 BK152) hb); replace BK143 := am_ (blk_below (g := gb143) (o := .cells #[.string a0_0, .int .i64 a0_1, .bool a0_2] 54 (0, 0)) (by refine bp_ ?_; refine blk_far ?_ NB143_152.out _; refine bp_ ?_; refine blk_far ?_ NB143_152.out _; refine bp_ ?_; refine blk_far ?_ NB143_152.out _; exact bk_ BK143.out) hb); replace BK144 := am_ (blk_below (g := gb144) (o := .cells #[.string (⟨#[]⟩ : ByteArray), .int .i64 0, .bool false] 54 (0, 0)) (by refine bp_ ?_; refine blk_far ?_ NB144_152.out _; refine bp_ ?_; refine blk_far ?_ NB144_152.out _; refine bp_ ?_; refine blk_far ?_ NB144_152.out _; exact bk_ BK144.out) hb); replace BK152 := am_ (blk_below (g := gb152) (o := .cells #[.string t148, .int .i64 t149, .bool t150] 54 (0, 0)) (by refine bp_ ?_; refine blk_put (cs := #[.string t148, .int .i64 t149, .bool false]) ?_ 2 _ rfl; refine bp_ ?_; refine blk_put (cs := #[.string t148, .int .i64 0, .bool false]) ?_ 1 _ rfl; refine bp_ ?_; refine blk_put (cs := #[.string (⟨#[]⟩ : ByteArray), .int .i64 0, .bool false]) ?_ 0 _ rfl; exact bk_ BK152.out) hb); replace HB := bt_ hb; (try clear hb); (try clear hk); obtain ⟨hcz17_0, hcz17_1, hcz17_2⟩ := cz3_ BK144.out; obtain ⟨hfz17_0, hfz17_1, hfz17_2⟩ := fz3_ BK144.out))
 refine bodyPost_ret (results_ct rfl _ _ gb144 54 #[.string t153, .int .i64 t154, .bool t155] (0, 0) _ rfl (by refine bp_ ?_; refine blk_put (cs := #[.string t153, .int .i64 t154, .bool false]) ?_ 2 _ rfl; refine bp_ ?_; refine blk_put (cs := #[.string t153, .int .i64 0, .bool false]) ?_ 1 _ rfl; refine bp_ ?_; refine blk_put (cs := #[.string (⟨#[]⟩ : ByteArray), .int .i64 0, .bool false]) ?_ 0 _ rfl; exact bk_ BK144.out) Tryd.underlying54 rfl (by kernel_rfl)) rfl ?_
 exact rt_
def computusref27_date.f (k : Nat) (a0_0 : ByteArray) (a0_1 : Int) (a0_2 : Bool) (a1 : Int) : Option (ByteArray × Int × Bool × Int × Int × Int) := (computusref26_Number.f k a0_0 a0_1 a0_2).bind fun bt166 => ((computusref26_Number.f k bt166.1 bt166.2.1 bt166.2.2.1).bind fun bt170 => (some (bt170.1, bt170.2.1, bt170.2.2.1, a1, bt166.2.2.2, bt170.2.2.2)))
theorem computusref27_date.calls (k : Nat) (a0_0 : ByteArray) (a0_1 : Int) (a0_2 : Bool) (a1 : Int) (r1 : ByteArray) (r2 : Int) (r3 : Bool) (r4 : Int) (r5 : Int) (r6 : Int) (w : World) (h : computusref27_date.f k a0_0 a0_1 a0_2 a1 = some (r1, r2, r3, r4, r5, r6)) :
  Calls Tryd.prog 64 #[.agg #[.string a0_0, .int .i64 a0_1, .bool a0_2], .int .i64 a1] w fun e w' => e = .returned (.tuple #[.agg #[.string r1, .int .i64 r2, .bool r3], .agg #[.int .i64 r4, .int .i64 r5, .int .i64 r6]]) ∧ Below w.heap.size w w' := by
 have hu54 := Tryd.underlying54
 have hu37 := Tryd.underlying37
 have HB := am_ (Below.refl w.heap.size w)
 have H := h
 clear h
 unfold computusref27_date.f at H
 obtain ⟨⟨t166, t167, t168, t169⟩, A3, H⟩ := bs_ H
 dsimp only at H
 obtain ⟨⟨t170, t171, t172, t173⟩, A4, H⟩ := bs_ H
 dsimp only at H
 simp only [Option.some.injEq, Prod.mk.injEq] at H
 obtain ⟨rfl, rfl, rfl, rfl, rfl, rfl⟩ := H
 go_enter Tryd.func64, Tryd.ntmps64
 try go_wp2_with (first | ((with_reducible refine gate_dst (N := 2) rfl ?_); refine bx_ (w := w) (N := 2) (cs := #[.string a0_0, .int .i64 a0_1, .bool a0_2]) (t := 54) ?_; intro gb162 w5 BK162 n0_ GW162 GE162; clear HB; have HB := n0_; clear n0_) | ((with_reducible refine gate_dst (N := 4) rfl ?_); refine be_ (N := 4) (cs := #[.string (⟨#[]⟩ : ByteArray), .int .i64 0, .bool false]) (t := 54) ?_; intro gb163 hg w6 hbox hb; have BK163 := am_ (hbox); have GW163 := gw_ (w := w) hg; have GE163 := gw_ (w := w) hg; replace HB := bt_ hb; have NB162_163 := ne_ hg BK162; have NB163_162 := nf_ hg BK162; replace BK162 := bw_ BK162 hb; clear hb hbox hg) | ((with_reducible refine gate_dst (N := 5) rfl ?_); refine be_ (N := 5) (cs := #[.int .i64 0, .int .i64 0, .int .i64 0]) (t := 37) ?_; intro gb164 hg w7 hbox hb; have BK164 := am_ (hbox); have GW164 := gw_ (w := w) hg; have GE164 := gw_ (w := w) hg; replace HB := bt_ hb; have NB162_164 := ne_ hg BK162; have NB164_162 := nf_ hg BK162; replace BK162 := bw_ BK162 hb; have NB163_164 := ne_ hg BK163; have NB164_163 := nf_ hg BK163; replace BK163 := bw_ BK163 hb; clear hb hbox hg) | ((with_reducible refine gate_dst (N := 6) rfl ?_); refine be_ (N := 6) (cs := #[.int .i64 0, .int .i64 0, .int .i64 0]) (t := 37) ?_; intro gb165 hg w8 hbox hb; have BK165 := am_ (hbox); have GW165 := gw_ (w := w) hg; have GE165 := gw_ (w := w) hg; replace HB := bt_ hb; have NB162_165 := ne_ hg BK162; have NB165_162 := nf_ hg BK162; replace BK162 := bw_ BK162 hb; have NB163_165 := ne_ hg BK163; have NB165_163 := nf_ hg BK163; replace BK163 := bw_ BK163 hb; have NB164_165 := ne_ hg BK164; have NB165_164 := nf_ hg BK164; replace BK164 := bw_ BK164 hb; clear hb hbox hg; have hnb9 := NB165_162.out; have hnc9 := NB162_165.out; have hnb10 := NB165_163.out; have hnc10 := NB163_165.out; have hnb11 := NB165_164.out; have hnc11 := NB164_165.out; obtain ⟨hcz12_0, hcz12_1, hcz12_2⟩ := cz3_ BK165.out; obtain ⟨hfz12_0, hfz12_1, hfz12_2⟩ := fz3_ BK165.out; have hnb13 := NB162_163.out; have hnc13 := NB163_162.out; have hnb14 := NB162_164.out; have hnc14 := NB164_162.out; obtain ⟨hcz15_0, hcz15_1, hcz15_2⟩ := cz3_ BK162.out; obtain ⟨hfz15_0, hfz15_1, hfz15_2⟩ := fz3_ BK162.out) | ((with_reducible refine gate_callee (f := 27) rfl ?_); refine goesL_ (some 11) rfl rfl Tryd.func27 (by kernel_rfl) rfl #[.agg #[.string a0_0, .int .i64 a0_1, .bool a0_2]] rfl (by (try simp only [List.map_toArray, List.map_cons, List.map_nil]); first | done | rfl | (simp only [List.length_drop, List.length_take]; rfl)) ?_; (with_reducible refine (computusref26_Number.calls k a0_0 a0_1 a0_2 t166 t167 t168 t169 _ A3.out).mono ?_); rintro e w16 ⟨rfl, hb⟩; refine ⟨_, rfl, ?_⟩; replace BK162 := am_ (blk_below (g := gb162) (o := .cells #[.string a0_0, .int .i64 a0_1, .bool a0_2] 54 (0, 0)) (by refine bp_ ?_; refine blk_far ?_ NB162_165.out _; refine bp_ ?_; refine blk_far ?_ NB162_165.out _; refine bp_ ?_; refine blk_far ?_ NB162_165.out _; exact bk_ BK162.out) hb); replace BK163 := am_ (blk_below (g := gb163) (o := .cells #[.string (⟨#[]⟩ : ByteArray), .int .i64 0, .bool false] 54 (0, 0)) (by refine bp_ ?_; refine blk_far ?_ NB163_165.out _; refine bp_ ?_; refine blk_far ?_ NB163_165.out _; refine bp_ ?_; refine blk_far ?_ NB163_165.out _; exact bk_ BK163.out) hb); replace BK164 := am_ (blk_below (g := gb164) (o := .cells #[.int .i64 0, .int .i64 0, .int .i64 0] 37 (0, 0)) (by refine bp_ ?_; refine blk_far ?_ NB164_165.out _; refine bp_ ?_; refine blk_far ?_ NB164_165.out _; refine bp_ ?_; refine blk_far ?_ NB164_165.out _; exact bk_ BK164.out) hb); replace BK165 := am_ (blk_below (g := gb165) (o := .cells #[.int .i64 a1, .int .i64 0, .int .i64 0] 37 (0, 0)) (by refine bp_ ?_; refine blk_put (cs := #[.int .i64 a1, .int .i64 0, .int .i64 0]) ?_ 2 _ rfl; refine bp_ ?_; refine blk_put (cs := #[.int .i64 a1, .int .i64 0, .int .i64 0]) ?_ 1 _ rfl; refine bp_ ?_; refine blk_put (cs := #[.int .i64 0, .int .i64 0, .int .i64 0]) ?_ 0 _ rfl; exact bk_ BK165.out) hb); replace HB := bt_ hb; (try clear hb); obtain ⟨hcz17_0, hcz17_1, hcz17_2⟩ := cz3_ BK162.out; obtain ⟨hfz17_0, hfz17_1, hfz17_2⟩ := fz3_ BK162.out; obtain ⟨hcz18_0, hcz18_1, hcz18_2⟩ := cz3_ BK165.out; obtain ⟨hfz18_0, hfz18_1, hfz18_2⟩ := fz3_ BK165.out) | ((with_reducible refine gate_callee (f := 27) rfl ?_); refine goesL_ (some 17) rfl rfl Tryd.func27 (by kernel_rfl) rfl #[.agg #[.string t166, .int .i64 t167, .bool t168]] rfl (by (try simp only [List.map_toArray, List.map_cons, List.map_nil]); first | done | rfl | (simp only [List.length_drop, List.length_take]; rfl)) ?_; (with_reducible refine (computusref26_Number.calls k t166 t167 t168 t170 t171 t172 t173 _ A4.out).mono ?_); rintro e w19 ⟨rfl, hb⟩; refine ⟨_, rfl, ?_⟩; replace BK162 := am_ (blk_below (g := gb162) (o := .cells #[.string t166, .int .i64 t167, .bool t168] 54 (0, 0)) (by refine bp_ ?_; refine blk_far ?_ NB162_165.out _; refine bp_ ?_; refine blk_put (cs := #[.string t166, .int .i64 t167, .bool a0_2]) ?_ 2 _ rfl; refine bp_ ?_; refine blk_put (cs := #[.string t166, .int .i64 a0_1, .bool a0_2]) ?_ 1 _ rfl; refine bp_ ?_; refine blk_put (cs := #[.string a0_0, .int .i64 a0_1, .bool a0_2]) ?_ 0 _ rfl; exact bk_ BK162.out) hb); replace BK163 := am_ (blk_below (g := gb163) (o := .cells #[.string (⟨#[]⟩ : ByteArray), .int .i64 0, .bool false] 54 (0, 0)) (by refine bp_ ?_; refine blk_far ?_ NB163_165.out _; refine bp_ ?_; refine blk_far ?_ NB163_162.out _; refine bp_ ?_; refine blk_far ?_ NB163_162.out _; refine bp_ ?_; refine blk_far ?_ NB163_162.out _; exact bk_ BK163.out) hb); replace BK164 := am_ (blk_below (g := gb164) (o := .cells #[.int .i64 0, .int .i64 0, .int .i64 0] 37 (0, 0)) (by refine bp_ ?_; refine blk_far ?_ NB164_165.out _; refine bp_ ?_; refine blk_far ?_ NB164_162.out _; refine bp_ ?_; refine blk_far ?_ NB164_162.out _; refine bp_ ?_; refine blk_far ?_ NB164_162.out _; exact bk_ BK164.out) hb); replace BK165 := am_ (blk_below (g := gb165) (o := .cells #[.int .i64 a1, .int .i64 t169, .int .i64 0] 37 (0, 0)) (by refine bp_ ?_; refine blk_put (cs := #[.int .i64 a1, .int .i64 0, .int .i64 0]) ?_ 1 _ rfl; refine bp_ ?_; refine blk_far ?_ NB165_162.out _; refine bp_ ?_; refine blk_far ?_ NB165_162.out _; refine bp_ ?_; refine blk_far ?_ NB165_162.out _; exact bk_ BK165.out) hb); replace HB := bt_ hb; (try clear hb); obtain ⟨hcz20_0, hcz20_1, hcz20_2⟩ := cz3_ BK162.out; obtain ⟨hfz20_0, hfz20_1, hfz20_2⟩ := fz3_ BK162.out; obtain ⟨hcz21_0, hcz21_1, hcz21_2⟩ := cz3_ BK165.out; obtain ⟨hfz21_0, hfz21_1, hfz21_2⟩ := fz3_ BK165.out))
 have n0_ : Aside0 (((((w19.setCell ⟨gb162, 0, none⟩ (.string t170)).setCell ⟨gb162, 1, none⟩ (.int .i64 t171)).setCell ⟨gb162, 2, none⟩ (.bool t172)).setCell ⟨gb165, 2, none⟩ (.int .i64 t173)).heap[gb162]? = some (.cells #[.string t170, .int .i64 t171, .bool t172] 54 (0, 0))) := ⟨by refine bp_ ?_; refine blk_far ?_ NB162_165.out _; refine bp_ ?_; refine blk_put (cs := #[.string t170, .int .i64 t171, .bool t168]) ?_ 2 _ rfl; refine bp_ ?_; refine blk_put (cs := #[.string t170, .int .i64 t167, .bool t168]) ?_ 1 _ rfl; refine bp_ ?_; refine blk_put (cs := #[.string t166, .int .i64 t167, .bool t168]) ?_ 0 _ rfl; exact bk_ BK162.out⟩
 have n1_ : Aside0 (((((w19.setCell ⟨gb162, 0, none⟩ (.string t170)).setCell ⟨gb162, 1, none⟩ (.int .i64 t171)).setCell ⟨gb162, 2, none⟩ (.bool t172)).setCell ⟨gb165, 2, none⟩ (.int .i64 t173)).heap[gb163]? = some (.cells #[.string (⟨#[]⟩ : ByteArray), .int .i64 0, .bool false] 54 (0, 0))) := ⟨by refine bp_ ?_; refine blk_far ?_ NB163_165.out _; refine bp_ ?_; refine blk_far ?_ NB163_162.out _; refine bp_ ?_; refine blk_far ?_ NB163_162.out _; refine bp_ ?_; refine blk_far ?_ NB163_162.out _; exact bk_ BK163.out⟩
 have n2_ : Aside0 (((((w19.setCell ⟨gb162, 0, none⟩ (.string t170)).setCell ⟨gb162, 1, none⟩ (.int .i64 t171)).setCell ⟨gb162, 2, none⟩ (.bool t172)).setCell ⟨gb165, 2, none⟩ (.int .i64 t173)).heap[gb164]? = some (.cells #[.int .i64 0, .int .i64 0, .int .i64 0] 37 (0, 0))) := ⟨by refine bp_ ?_; refine blk_far ?_ NB164_165.out _; refine bp_ ?_; refine blk_far ?_ NB164_162.out _; refine bp_ ?_; refine blk_far ?_ NB164_162.out _; refine bp_ ?_; refine blk_far ?_ NB164_162.out _; exact bk_ BK164.out⟩
 have n3_ : Aside0 (((((w19.setCell ⟨gb162, 0, none⟩ (.string t170)).setCell ⟨gb162, 1, none⟩ (.int .i64 t171)).setCell ⟨gb162, 2, none⟩ (.bool t172)).setCell ⟨gb165, 2, none⟩ (.int .i64 t173)).heap[gb165]? = some (.cells #[.int .i64 a1, .int .i64 t169, .int .i64 t173] 37 (0, 0))) := ⟨by refine bp_ ?_; refine blk_put (cs := #[.int .i64 a1, .int .i64 t169, .int .i64 0]) ?_ 2 _ rfl; refine bp_ ?_; refine blk_far ?_ NB165_162.out _; refine bp_ ?_; refine blk_far ?_ NB165_162.out _; refine bp_ ?_; refine blk_far ?_ NB165_162.out _; exact bk_ BK165.out⟩
 have n4_ : Aside0 (Below w.heap.size w ((((w19.setCell ⟨gb162, 0, none⟩ (.string t170)).setCell ⟨gb162, 1, none⟩ (.int .i64 t171)).setCell ⟨gb162, 2, none⟩ (.bool t172)).setCell ⟨gb165, 2, none⟩ (.int .i64 t173))) := ⟨bh_⟩
 (try clear BK162)
 (try clear BK163)
 (try clear BK164)
 (try clear BK165)
 (try clear HB)
 generalize ((((w19.setCell ⟨gb162, 0, none⟩ (.string t170)).setCell ⟨gb162, 1, none⟩ (.int .i64 t171)).setCell ⟨gb162, 2, none⟩ (.bool t172)).setCell ⟨gb165, 2, none⟩ (.int .i64 t173)) = w22 at n0_ n1_ n2_ n3_ n4_ ⊢
 have BK162 := n0_
 have BK163 := n1_
 have BK164 := n2_
 have BK165 := n3_
 have HB := n4_
 clear n0_ n1_ n2_ n3_ n4_
 replace BK162 := am_ (blk_drew BK162.out)
 replace BK163 := am_ (blk_drew BK163.out)
 replace BK164 := am_ (blk_drew BK164.out)
 replace BK165 := am_ (blk_drew BK165.out)
 replace HB := am_ (below_drew1 HB.out)
 refine start_ (n := 4) (S := fun w' => w'.cell? ⟨gb162, 0, none⟩ = some (.string t170) ∧ w'.cell? ⟨gb162, 1, none⟩ = some (.int .i64 t171) ∧ w'.cell? ⟨gb162, 2, none⟩ = some (.bool t172) ∧ w'.cell? ⟨gb165, 0, none⟩ = some (.int .i64 a1) ∧ w'.cell? ⟨gb165, 1, none⟩ = some (.int .i64 t169) ∧ w'.cell? ⟨gb165, 2, none⟩ = some (.int .i64 t173)) (ds := []) (bf_ 4 0) (by kernel_rfl) rfl rfl ⟨(blk_cell BK162.out 0).trans rfl, (blk_cell BK162.out 1).trans rfl, (blk_cell BK162.out 2).trans rfl, (blk_cell BK165.out 0).trans rfl, (blk_cell BK165.out 1).trans rfl, (blk_cell BK165.out 2).trans rfl⟩ (fun hHeld => ?_)
 generalize w22.drew = w23 at BK162 BK163 BK164 BK165 HB hHeld ⊢
 refine take_ (i := 0) (N := some 21) (v := ?_) (a' := ?_) (bf_ 4 1) rfl rfl (by kernel_rfl) (fun _ _ _ h => h) (Or.inl ⟨by rfl, ?_⟩) hHeld ?_ ?_
 rotate_left
 ·rintro w' ⟨s0, s1, s2, s3, s4, s5⟩
  go_simp
  with_reducible rfl
 rotate_left
 ·simp only [Act.put, sA_, sZ_, sS_, i64_w, i32_w]
  rfl
 refine take_ (i := 1) (N := some 22) (v := ?_) (a' := ?_) (bf_ 4 3) rfl rfl (by kernel_rfl) (fun _ _ _ h => h) (Or.inl ⟨by rfl, ?_⟩) hHeld ?_ ?_
 rotate_left
 ·rintro w' ⟨s0, s1, s2, s3, s4, s5⟩
  go_simp
  with_reducible rfl
 rotate_left
 ·simp only [Act.put, sA_, sZ_, sS_, i64_w, i32_w]
  rfl
 refine one_ (i := 2) (N := none) (bf_ 4 7) rfl rfl (by kernel_rfl) (by decide) (fun K hK => ?_)
 have hs24 : w23.cell? ⟨gb163, 0, none⟩ = some (.string (⟨#[]⟩ : ByteArray)) := (blk_cell BK163.out 0).trans rfl
 have hfs24 := blk_frozen BK163.out 0
 have hns24_0 := NB162_163.out
 have hns24_2 := NB164_163.out
 have hns24_3 := NB165_163.out
 have hms24_0 := NB163_162.out
 have hms24_2 := NB163_164.out
 have hms24_3 := NB163_165.out
 have hs25 : w23.cell? ⟨gb163, 1, none⟩ = some (.int .i64 0) := (blk_cell BK163.out 1).trans rfl
 have hfs25 := blk_frozen BK163.out 1
 have hns25_0 := NB162_163.out
 have hns25_2 := NB164_163.out
 have hns25_3 := NB165_163.out
 have hms25_0 := NB163_162.out
 have hms25_2 := NB163_164.out
 have hms25_3 := NB163_165.out
 have hs26 : w23.cell? ⟨gb163, 2, none⟩ = some (.bool false) := (blk_cell BK163.out 2).trans rfl
 have hfs26 := blk_frozen BK163.out 2
 have hns26_0 := NB162_163.out
 have hns26_2 := NB164_163.out
 have hns26_3 := NB165_163.out
 have hms26_0 := NB163_162.out
 have hms26_2 := NB163_164.out
 have hms26_3 := NB163_165.out
 refine skip_ (w1 := ?_) (by rfl) rfl ?_ ?_
 rotate_left
 ·go_simp
  rfl
 refine hK.out _ _ ⟨((cell_far (p := ⟨gb163, _, none⟩) NB162_163.out _).trans (((cell_far (p := ⟨gb163, _, none⟩) NB162_163.out _).trans (((cell_far (p := ⟨gb163, _, none⟩) NB162_163.out _).trans (hHeld.1)))))), ((cell_far (p := ⟨gb163, _, none⟩) NB162_163.out _).trans (((cell_far (p := ⟨gb163, _, none⟩) NB162_163.out _).trans (((cell_far (p := ⟨gb163, _, none⟩) NB162_163.out _).trans (hHeld.2.1)))))), ((cell_far (p := ⟨gb163, _, none⟩) NB162_163.out _).trans (((cell_far (p := ⟨gb163, _, none⟩) NB162_163.out _).trans (((cell_far (p := ⟨gb163, _, none⟩) NB162_163.out _).trans (hHeld.2.2.1)))))), ((cell_far (p := ⟨gb163, _, none⟩) NB165_163.out _).trans (((cell_far (p := ⟨gb163, _, none⟩) NB165_163.out _).trans (((cell_far (p := ⟨gb163, _, none⟩) NB165_163.out _).trans (hHeld.2.2.2.1)))))), ((cell_far (p := ⟨gb163, _, none⟩) NB165_163.out _).trans (((cell_far (p := ⟨gb163, _, none⟩) NB165_163.out _).trans (((cell_far (p := ⟨gb163, _, none⟩) NB165_163.out _).trans (hHeld.2.2.2.2.1)))))), ((cell_far (p := ⟨gb163, _, none⟩) NB165_163.out _).trans (((cell_far (p := ⟨gb163, _, none⟩) NB165_163.out _).trans (((cell_far (p := ⟨gb163, _, none⟩) NB165_163.out _).trans (hHeld.2.2.2.2.2))))))⟩ (fun hHeld => ?_)
 clear hK K
 refine one_ (i := 3) (N := none) (bf_ 4 15) rfl rfl (by kernel_rfl) (by decide) (fun K hK => ?_)
 have hs27 : w23.cell? ⟨gb164, 0, none⟩ = some (.int .i64 0) := (blk_cell BK164.out 0).trans rfl
 have hfs27 := blk_frozen BK164.out 0
 have hns27_0 := NB162_164.out
 have hns27_1 := NB163_164.out
 have hns27_3 := NB165_164.out
 have hms27_0 := NB164_162.out
 have hms27_1 := NB164_163.out
 have hms27_3 := NB164_165.out
 have hs28 : w23.cell? ⟨gb164, 1, none⟩ = some (.int .i64 0) := (blk_cell BK164.out 1).trans rfl
 have hfs28 := blk_frozen BK164.out 1
 have hns28_0 := NB162_164.out
 have hns28_1 := NB163_164.out
 have hns28_3 := NB165_164.out
 have hms28_0 := NB164_162.out
 have hms28_1 := NB164_163.out
 have hms28_3 := NB164_165.out
 have hs29 : w23.cell? ⟨gb164, 2, none⟩ = some (.int .i64 0) := (blk_cell BK164.out 2).trans rfl
 have hfs29 := blk_frozen BK164.out 2
 have hns29_0 := NB162_164.out
 have hns29_1 := NB163_164.out
 have hns29_3 := NB165_164.out
 have hms29_0 := NB164_162.out
 have hms29_1 := NB164_163.out
 have hms29_3 := NB164_165.out
 refine skip_ (w1 := ?_) (by rfl) rfl ?_ ?_
 rotate_left
 ·go_simp
  rfl
 refine hK.out _ _ ⟨((cell_far (p := ⟨gb164, _, none⟩) NB162_164.out _).trans (((cell_far (p := ⟨gb164, _, none⟩) NB162_164.out _).trans (((cell_far (p := ⟨gb164, _, none⟩) NB162_164.out _).trans (hHeld.1)))))), ((cell_far (p := ⟨gb164, _, none⟩) NB162_164.out _).trans (((cell_far (p := ⟨gb164, _, none⟩) NB162_164.out _).trans (((cell_far (p := ⟨gb164, _, none⟩) NB162_164.out _).trans (hHeld.2.1)))))), ((cell_far (p := ⟨gb164, _, none⟩) NB162_164.out _).trans (((cell_far (p := ⟨gb164, _, none⟩) NB162_164.out _).trans (((cell_far (p := ⟨gb164, _, none⟩) NB162_164.out _).trans (hHeld.2.2.1)))))), ((cell_far (p := ⟨gb164, _, none⟩) NB165_164.out _).trans (((cell_far (p := ⟨gb164, _, none⟩) NB165_164.out _).trans (((cell_far (p := ⟨gb164, _, none⟩) NB165_164.out _).trans (hHeld.2.2.2.1)))))), ((cell_far (p := ⟨gb164, _, none⟩) NB165_164.out _).trans (((cell_far (p := ⟨gb164, _, none⟩) NB165_164.out _).trans (((cell_far (p := ⟨gb164, _, none⟩) NB165_164.out _).trans (hHeld.2.2.2.2.1)))))), ((cell_far (p := ⟨gb164, _, none⟩) NB165_164.out _).trans (((cell_far (p := ⟨gb164, _, none⟩) NB165_164.out _).trans (((cell_far (p := ⟨gb164, _, none⟩) NB165_164.out _).trans (hHeld.2.2.2.2.2))))))⟩ (fun hHeld => ?_)
 clear hK K
 refine done_ (by kernel_rfl) ?_
 try go_wp2
 refine bodyPost_ret (results_cc rfl _ _ gb163 gb164 54 37 #[.string t170, .int .i64 t171, .bool t172] #[.int .i64 a1, .int .i64 t169, .int .i64 t173] (0, 0) (0, 0) _ _ rfl (by refine bp_ ?_; refine blk_far ?_ NB163_164.out _; refine bp_ ?_; refine blk_far ?_ NB163_164.out _; refine bp_ ?_; refine blk_far ?_ NB163_164.out _; refine bp_ ?_; refine blk_put (cs := #[.string t170, .int .i64 t171, .bool false]) ?_ 2 _ rfl; refine bp_ ?_; refine blk_put (cs := #[.string t170, .int .i64 0, .bool false]) ?_ 1 _ rfl; refine bp_ ?_; refine blk_put (cs := #[.string (⟨#[]⟩ : ByteArray), .int .i64 0, .bool false]) ?_ 0 _ rfl; exact bk_ BK163.out) Tryd.underlying54 rfl (by kernel_rfl) rfl (by refine bp_ ?_; refine blk_put (cs := #[.int .i64 a1, .int .i64 t169, .int .i64 0]) ?_ 2 _ rfl; refine bp_ ?_; refine blk_put (cs := #[.int .i64 a1, .int .i64 0, .int .i64 0]) ?_ 1 _ rfl; refine bp_ ?_; refine blk_put (cs := #[.int .i64 0, .int .i64 0, .int .i64 0]) ?_ 0 _ rfl; refine bp_ ?_; refine blk_far ?_ NB164_163.out _; refine bp_ ?_; refine blk_far ?_ NB164_163.out _; refine bp_ ?_; refine blk_far ?_ NB164_163.out _; exact bk_ BK164.out) Tryd.underlying37 rfl (by kernel_rfl)) rfl ?_
 exact rt_
def computusref26_Identifier.f (k : Nat) (a0_0 : ByteArray) (a0_1 : Int) (a0_2 : Bool) : Option (ByteArray × Int × Bool × ByteArray) := (computusref25_Word.f k a0_0 a0_1 a0_2 (([(⟨#[32]⟩ : ByteArray)] : List ByteArray))).bind fun bt197 => ((computusref25_Identifier.f bt197.1 bt197.2.1 bt197.2.2.1).bind fun bt202 => (some (bt202.1, bt202.2.1, bt202.2.2.1, bt202.2.2.2)))
theorem computusref26_Identifier.calls (k : Nat) (a0_0 : ByteArray) (a0_1 : Int) (a0_2 : Bool) (r1 : ByteArray) (r2 : Int) (r3 : Bool) (r4 : ByteArray) (w : World) (h : computusref26_Identifier.f k a0_0 a0_1 a0_2 = some (r1, r2, r3, r4)) :
  Calls Tryd.prog 67 #[.agg #[.string a0_0, .int .i64 a0_1, .bool a0_2]] w fun e w' => e = .returned (.tuple #[.agg #[.string r1, .int .i64 r2, .bool r3], .string r4]) ∧ Below w.heap.size w w' := by
 have hu54 := Tryd.underlying54
 have HB := am_ (Below.refl w.heap.size w)
 have H := h
 clear h
 unfold computusref26_Identifier.f at H
 obtain ⟨y194, hy194⟩ : ∃ y_ : List ByteArray, y_ = (([(⟨#[32]⟩ : ByteArray)] : List ByteArray)) := ⟨_, rfl⟩
 replace H : ((computusref25_Word.f k a0_0 a0_1 a0_2 y194).bind fun bt197 => ((computusref25_Identifier.f bt197.1 bt197.2.1 bt197.2.2.1).bind fun bt202 => (some (bt202.1, bt202.2.1, bt202.2.2.1, bt202.2.2.2)))) = some (r1, r2, r3, r4) := by first | (rw [hy194]; with_reducible exact H) | (have H2_ := (Option.bind_some _ _).symm.trans H; rw [hy194]; with_reducible exact H2_) | (have H2_ := (Option.bind_some _ _).symm.trans H; with_reducible exact H2_) | with_reducible exact H | (rw [hy194]; exact H) | exact H
 have Ny194 := am_ hy194
 clear hy194
 obtain ⟨⟨t197, t198, t199, t200⟩, A2, H⟩ := bs_ H
 dsimp only at H
 obtain ⟨⟨t202, t203, t204, t205⟩, A3, H⟩ := bs_ H
 dsimp only at H
 simp only [Option.some.injEq, Prod.mk.injEq] at H
 obtain ⟨rfl, rfl, rfl, rfl⟩ := H
 go_enter Tryd.func67, Tryd.ntmps67
 go_wp2_with (first | ((with_reducible refine gate_dst (N := 1) rfl ?_); refine bx_ (w := w) (N := 1) (cs := #[.string a0_0, .int .i64 a0_1, .bool a0_2]) (t := 54) ?_; intro gb192 w4 BK192 n0_ GW192 GE192; clear HB; have HB := n0_; clear n0_) | ((with_reducible refine gate_dst (N := 2) rfl ?_); refine be_ (N := 2) (cs := #[.string (⟨#[]⟩ : ByteArray), .int .i64 0, .bool false]) (t := 54) ?_; intro gb193 hg w5 hbox hb; have BK193 := am_ (hbox); have GW193 := gw_ (w := w) hg; have GE193 := gw_ (w := w) hg; replace HB := bt_ hb; have NB192_193 := ne_ hg BK192; have NB193_192 := nf_ hg BK192; replace BK192 := bw_ BK192 hb; clear hb hbox hg; have hnb6 := NB192_193.out; have hnc6 := NB193_192.out; obtain ⟨hcz7_0, hcz7_1, hcz7_2⟩ := cz3_ BK192.out; obtain ⟨hfz7_0, hfz7_1, hfz7_2⟩ := fz3_ BK192.out) | ((with_reducible refine gate_dst (N := 8) rfl ?_); refine Kd.R_lit Kd.string _ 9 ?hg (N := 8) ?hd (xs := ([(⟨#[32]⟩ : ByteArray)] : List ByteArray)) (inner := [.string (⟨#[32]⟩ : ByteArray)]) (ok := fun _ => True) (okp := fun _ => True) ?hr ?hp (fun _ hk => hk) trivial (Below.refl _ _) (Nat.le_refl _) (by simp) ?_; (case hd => rfl); (case hg => rfl); (case hr => first | (go_simp; done) | (go_simp; rfl)); (case hp => exact (Reps.one (show Kd.M Kd.string _ _ _ (⟨#[32]⟩ : ByteArray) [.string (⟨#[32]⟩ : ByteArray)] from rfl) (Reps.none _ _))); intro v195 w8 ho9 hb hg_ hnew_; clear hg_ hnew_; (first | rw [← Ny194.out] at ho9 | (simp only [Int.reduceToNat] at ho9; rw [← Ny194.out] at ho9)); have HO196 := am_ (Kd.R_lower ho9 bz_); replace BK192 := bw_ BK192 hb; replace BK193 := bw_ BK193 hb; replace HB := bt_ hb; clear hb ho9; obtain ⟨Ao10, co10, eo10⟩ := Kd.R_slice HO196.out; subst eo10) | ((with_reducible refine gate_callee (f := 26) rfl ?_); refine goesL_ (some 9) rfl rfl Tryd.func26 (by kernel_rfl) rfl #[.agg #[.string a0_0, .int .i64 a0_1, .bool a0_2], .slice Ao10 y194.length co10] rfl (by (try simp only [List.map_toArray, List.map_cons, List.map_nil]); first | done | rfl | (simp only [List.length_drop, List.length_take]; rfl)) ?_; (with_reducible refine (computusref25_Word.calls k a0_0 a0_1 a0_2 _ _ y194 t197 t198 t199 t200 _ ?side1 ?side2 A2.out).mono ?_); (case side1 => exact ck_ (Kd.R_reads' HO196.out).2.2); (case side2 => exact (Kd.R_reads' HO196.out).2.1); rintro e w11 ⟨rfl, hb⟩; refine ⟨_, rfl, ?_⟩; replace HO196 := rw_ HO196 hb; replace BK192 := bw_ BK192 hb; replace BK193 := bw_ BK193 hb; replace HB := bt_ hb; (try clear hb); (try clear hk); (try clear hi)) | ((with_reducible refine gate_dst (N := 4) rfl ?_); refine be_ (N := 4) (cs := #[.string (⟨#[]⟩ : ByteArray), .int .i64 0, .bool false]) (t := 54) ?_; intro gb201 hg w12 hbox hb; replace HO196 := rw_ HO196 hb; have BK201 := am_ (hbox); have GW201 := gw_ (w := w) hg; have GE201 := gw_ (w := w) hg; replace HB := bt_ hb; have NB192_201 := ne_ hg BK192; have NB201_192 := nf_ hg BK192; replace BK192 := bw_ BK192 hb; have NB193_201 := ne_ hg BK193; have NB201_193 := nf_ hg BK193; replace BK193 := bw_ BK193 hb; clear hb hbox hg; have hnb13 := NB201_192.out; have hnc13 := NB192_201.out; have hnb14 := NB201_193.out; have hnc14 := NB193_201.out; obtain ⟨hcz15_0, hcz15_1, hcz15_2⟩ := cz3_ BK201.out; obtain ⟨hfz15_0, hfz15_1, hfz15_2⟩ := fz3_ BK201.out) | ((with_reducible refine gate_callee (f := 68) rfl ?_); refine goesL_ (some 13) rfl rfl Tryd.func68 (by kernel_rfl) rfl #[.agg #[.string t197, .int .i64 t198, .bool t199]] rfl (by (try simp only [List.map_toArray, List.map_cons, List.map_nil]); first | done | rfl | (simp only [List.length_drop, List.length_take]; rfl)) ?_; (with_reducible refine (computusref25_Identifier.calls t197 t198 t199 t202 t203 t204 t205 _ A3.out).mono ?_); rintro e w16 ⟨rfl, hb⟩; refine ⟨_, rfl, ?_⟩; replace HO196 := am_ (Kd.R_below (fa_ HO196 BK201) hb); replace BK192 := am_ (blk_below (g := gb192) (o := .cells #[.string a0_0, .int .i64 a0_1, .bool a0_2] 54 (0, 0)) (by refine bp_ ?_; refine blk_far ?_ NB192_201.out _; refine bp_ ?_; refine blk_far ?_ NB192_201.out _; refine bp_ ?_; refine blk_far ?_ NB192_201.out _; exact bk_ BK192.out) hb); replace BK193 := am_ (blk_below (g := gb193) (o := .cells #[.string (⟨#[]⟩ : ByteArray), .int .i64 0, .bool false] 54 (0, 0)) (by refine bp_ ?_; refine blk_far ?_ NB193_201.out _; refine bp_ ?_; refine blk_far ?_ NB193_201.out _; refine bp_ ?_; refine blk_far ?_ NB193_201.out _; exact bk_ BK193.out) hb); replace BK201 := am_ (blk_below (g := gb201) (o := .cells #[.string t197, .int .i64 t198, .bool t199] 54 (0, 0)) (by refine bp_ ?_; refine blk_put (cs := #[.string t197, .int .i64 t198, .bool false]) ?_ 2 _ rfl; refine bp_ ?_; refine blk_put (cs := #[.string t197, .int .i64 0, .bool false]) ?_ 1 _ rfl; refine bp_ ?_; refine blk_put (cs := #[.string (⟨#[]⟩ : ByteArray), .int .i64 0, .bool false]) ?_ 0 _ rfl; exact bk_ BK201.out) hb); replace HB := bt_ hb; (try clear hb); (try clear hk); obtain ⟨hcz17_0, hcz17_1, hcz17_2⟩ := cz3_ BK193.out; obtain ⟨hfz17_0, hfz17_1, hfz17_2⟩ := fz3_ BK193.out))
 refine bodyPost_ret (results_ct rfl _ _ gb193 54 #[.string t202, .int .i64 t203, .bool t204] (0, 0) _ rfl (by refine bp_ ?_; refine blk_put (cs := #[.string t202, .int .i64 t203, .bool false]) ?_ 2 _ rfl; refine bp_ ?_; refine blk_put (cs := #[.string t202, .int .i64 0, .bool false]) ?_ 1 _ rfl; refine bp_ ?_; refine blk_put (cs := #[.string (⟨#[]⟩ : ByteArray), .int .i64 0, .bool false]) ?_ 0 _ rfl; exact bk_ BK193.out) Tryd.underlying54 rfl (by kernel_rfl)) rfl ?_
 exact rt_
end Go.Proofs.YtlchefonlfokgaaDoor.Q
end
