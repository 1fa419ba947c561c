/- What is proved: what the statement OrdotextOffsetsSaid needs, part 7 of 12; the last part proves the statement. No condition. -/
import Derived.Test.YtlchefonlfokgaaDoorZOOs5
import Derived.Lib.Strings
set_option maxHeartbeats 8000000
set_option maxRecDepth 100000
set_option linter.unusedVariables false
set_option linter.unusedSimpArgs false
section
namespace Go.Proofs.YtlchefonlfokgaaDoor.Q
open Go.RowKit Go.Proofs.YtlchefonlfokgaaDoorW.PrintWords Go.Proofs.YtlchefonlfokgaaDoorW.PrintLast Go.Proofs.YtlchefonlfokgaaDoorW.PrintMore
def agr (s : ByteArray) (F : Nat) (w : ByteArray) (n : Nat) : Prop := n ≤ w.size ∧ F + n ≤ s.size ∧ ∀ m, m < n → bt w (m : Int) = bt s ((F + m : Nat) : Int)
theorem agr_le {s : ByteArray} {F : Nat} {w : ByteArray} {n m : Nat} (h : agr s F w n) (hm : m ≤ n) : agr s F w m := ⟨by have := h.1; omega, by have := h.2.1; omega, fun k hk => h.2.2 k (by omega)⟩
def comL (s : ByteArray) (F : Nat) (w : ByteArray) : Nat → Nat → Nat
 | 0, n => n
 | k + 1, n => if n < w.size ∧ F + n < s.size ∧ bt s ((F + n : Nat) : Int) = bt w (n : Int) then comL s F w k (n + 1) else n
def com (s : ByteArray) (F : Nat) (w : ByteArray) : Nat := comL s F w w.size 0
theorem comL_spec {s : ByteArray} {F : Nat} {w : ByteArray} : ∀ (k n : Nat), n + k = w.size → agr s F w n → n ≤ comL s F w k n ∧ agr s F w (comL s F w k n) ∧ ¬ agr s F w (comL s F w k n + 1)
 | 0, n, hk, h => ⟨Nat.le_refl _, h, fun h2 => by have := h2.1; simp only [comL] at this; omega⟩
 | k + 1, n, hk, h => by
  rw [comL]
  split
  ·rename_i hc
   have h1 : agr s F w (n + 1) := ⟨by omega, by omega, fun m hm => by
    rcases Nat.lt_or_ge m n with h3 | h3
    ·exact h.2.2 m h3
    ·obtain rfl : m = n := by omega
     exact hc.2.2.symm⟩
   have h2 := comL_spec k (n + 1) (by omega) h1
   exact ⟨by omega, h2.2⟩
  ·rename_i hc
   exact ⟨Nat.le_refl _, h, fun h2 => hc ⟨by have := h2.1; omega, by have := h2.2.1; omega, (h2.2.2 n (by omega)).symm⟩⟩
theorem com_spec {s : ByteArray} {F : Nat} {w : ByteArray} (hF : F ≤ s.size) : agr s F w (com s F w) ∧ ¬ agr s F w (com s F w + 1) := (comL_spec w.size 0 (by omega) ⟨by omega, by omega, fun m hm => by omega⟩).2
theorem agr_iff {s : ByteArray} {F : Nat} {w : ByteArray} (hF : F ≤ s.size) (n : Nat) : agr s F w n ↔ n ≤ com s F w := by
 have h := com_spec (w := w) hF
 refine ⟨fun h1 => ?_, fun h1 => agr_le h.1 h1⟩
 rcases Nat.lt_or_ge (com s F w) n with h2 | h2
 ·exact absurd (agr_le h1 h2) h.2
 ·exact h2
theorem com_le {s : ByteArray} {F : Nat} {w : ByteArray} (hF : F ≤ s.size) : com s F w ≤ w.size ∧ F + com s F w ≤ s.size := ⟨(com_spec hF).1.1, (com_spec hF).1.2.1⟩
theorem bt_inj {s t : ByteArray} {i j : Nat} (h : i < s.size) (k : j < t.size) : bt s (i : Int) = bt t (j : Int) ↔ s[i]'h = t[j]'k := by
 have e1 : bt s (i : Int) = ((s[i]'h).toNat : Int) := by simp [bt, h]
 have e2 : bt t (j : Int) = ((t[j]'k).toNat : Int) := by simp [bt, k]
 rw [e1, e2]
 constructor
 ·intro h3; exact UInt8.toNat_inj.1 (by omega)
 ·intro h3; rw [h3]
theorem toList_eq_iff {s t : ByteArray} : s.toList = t.toList ↔ s.size = t.size ∧ ∀ m, m < s.size → bt s (m : Int) = bt t (m : Int) := by
 rw [Lib.toList_data, Lib.toList_data]
 constructor
 ·intro h
  have e : s = t := by
   cases s; cases t
   simp only at h
   congr 1
   exact Array.toList_inj.1 h
  subst e
  exact ⟨rfl, fun _ _ => rfl⟩
 ·intro ⟨h1, h2⟩
  apply List.ext_getElem
  ·rw [← Lib.size_eq, ← Lib.size_eq]; exact h1
  ·intro i h3 h4
   have h5 : i < s.size := by rw [Lib.size_eq]; exact h3
   have h6 : i < t.size := by rw [Lib.size_eq]; exact h4
   exact (bt_inj h5 h6).1 (h2 i h5)
theorem bt_extract {s : ByteArray} {a b m : Nat} (hb : b ≤ s.size) (h : a + m < b) : bt (s.extract a b) (m : Int) = bt s ((a + m : Nat) : Int) := by
 have h1 : m < (s.extract a b).size := by simp; omega
 have h2 : a + m < s.size := by omega
 exact (bt_inj h1 h2).2 (by simp [ByteArray.getElem_extract])
theorem same_iff {s w : ByteArray} {F n : Nat} (hn : n ≤ w.size) (hF : F + n ≤ s.size) : (w.extract 0 n).toList = (s.extract F (F + n)).toList ↔ ∀ m, m < n → bt w (m : Int) = bt s ((F + m : Nat) : Int) := by
 rw [toList_eq_iff]
 constructor
 ·intro ⟨h1, h2⟩ m hm
  have h3 := h2 m (by simp; omega)
  rw [bt_extract hn (by omega), bt_extract hF (by omega), Nat.zero_add] at h3
  exact h3
 ·intro h
  refine ⟨by simp; omega, fun m hm => ?_⟩
  have h4 : m < n := by simp at hm; omega
  rw [bt_extract hn (by omega), bt_extract hF (by omega), Nat.zero_add]
  exact h m h4
theorem fits_iff {s w : ByteArray} {F n : Nat} (hF : F + n < s.size) : wFits (s.extract F (F + n)) n (bt s ((F + n : Nat) : Int)) w = true ↔ agr s F w (n + 1) := by
 unfold wFits
 rw [Bool.and_eq_true, Bool.and_eq_true, decide_eq_true_iff, beq_iff_eq, beq_iff_eq]
 constructor
 ·intro ⟨h1, h2, h3⟩
  have h4 := (same_iff (by omega) (by omega)).1 h3
  refine ⟨by omega, by omega, fun m hm => ?_⟩
  rcases Nat.lt_or_ge m n with h5 | h5
  ·exact h4 m h5
  ·obtain rfl : m = n := by omega
   exact h2
 ·intro h
  exact ⟨by have := h.1; omega, h.2.2 n (by omega), (same_iff (by have := h.1; omega) (by omega)).2 (fun m hm => h.2.2 m (by omega))⟩
theorem full_iff {s w : ByteArray} {F n : Nat} (hF : F + n ≤ s.size) : w.toList = (s.extract F (F + n)).toList ↔ w.size = n ∧ agr s F w n := by
 rw [toList_eq_iff]
 constructor
 ·intro ⟨h1, h2⟩
  have h3 : w.size = n := by rw [h1]; simp; omega
  exact ⟨h3, by omega, hF, fun m hm => by rw [h2 m (by omega), bt_extract hF (by omega)]⟩
 ·intro ⟨h1, h2⟩
  exact ⟨by simp; omega, fun m hm => by rw [h2.2.2 m (by omega), bt_extract hF (by omega)]⟩
theorem scFind_spec (t : ByteArray) : ∀ (l : List ByteArray) (i : Nat) (acc : Int), (∃ k, ∃ h : k < l.length, l[k].toList = t.toList ∧ scFind t l i acc = ((i + k : Nat) : Int)) ∨ ((∀ x ∈ l, x.toList ≠ t.toList) ∧ scFind t l i acc = acc)
 | [], i, acc => .inr ⟨by simp, rfl⟩
 | x :: xs, i, acc => by
  rw [scFind]
  rcases scFind_spec t xs (i + 1) (if x.toList == t.toList then (i : Int) else acc) with ⟨k, h, h1, h2⟩ | ⟨h1, h2⟩
  ·exact .inl ⟨k + 1, by simp; omega, by simpa using h1, by rw [h2]; congr 1; omega⟩
  ·by_cases hx : x.toList = t.toList
   ·exact .inl ⟨0, by simp, by simpa using hx, by rw [h2, if_pos (by simpa using hx)]; rfl⟩
   ·refine .inr ⟨fun y hy => ?_, by rw [h2, if_neg (by simpa using hx)]⟩
    rcases List.mem_cons.1 hy with rfl | hy
    ·exact hx
    ·exact h1 y hy
def most (s : ByteArray) (F : Nat) : List ByteArray → Nat
 | [] => 0
 | w :: ws => max (com s F w) (most s F ws)
theorem most_ge {s : ByteArray} {F : Nat} : ∀ {l : List ByteArray} {w : ByteArray}, w ∈ l → com s F w ≤ most s F l
 | x :: xs, w, h => by
  rw [most]
  rcases List.mem_cons.1 h with rfl | h
  ·exact Nat.le_max_left _ _
  ·exact Nat.le_trans (most_ge h) (Nat.le_max_right _ _)
theorem most_le {s : ByteArray} {F n : Nat} : ∀ {l : List ByteArray}, (∀ w ∈ l, com s F w ≤ n) → most s F l ≤ n
 | [], _ => Nat.zero_le _
 | x :: xs, h => by rw [most]; exact Nat.max_le.2 ⟨h x (by simp), most_le (fun w hw => h w (by simp [hw]))⟩
def WR (s : ByteArray) (F : Nat) (l : List ByteArray) (r : Bool × Nat × Int) : Prop :=
 (∃ k, ∃ h : k < l.length, com s F l[k] = l[k].size ∧ r = (true, F + l[k].size, (k : Int))) ∨ ((∀ w ∈ l, com s F w ≠ w.size) ∧ r = (false, F + most s F l, -1))
theorem word_loop {s : ByteArray} {F : Nat} {l : List ByteArray} (hF : F ≤ s.size) : ∀ (k n : Nat), F + n ≤ s.size → s.size < F + n + k → (∀ w ∈ l, w.size ≤ n → com s F w ≠ w.size) → (n = 0 ∨ ∃ w ∈ l, n ≤ com s F w) → WR s F l (scWordLoop s F l k (F + n))
 | 0, n, h1, h2, h3, h4 => by omega
 | k + 1, n, h1, h2, h3, h4 => by
  rw [scWordLoop]
  by_cases ht : scTake s (F + n) (scWords s F l (F + n)) = true
  ·rw [if_pos ht]
   unfold scTake at ht
   rw [Bool.and_eq_true, decide_eq_true_iff] at ht
   obtain ⟨hlt, ht⟩ := ht
   unfold scWords at ht
   rw [Nat.add_sub_cancel_left, List.any_eq_true] at ht
   obtain ⟨w, hw, hf⟩ := ht
   have hag := (fits_iff hlt).1 hf
   rcases scFind_spec (s.extract F (F + n + 1)) l 0 (-1) with ⟨i, hi, h5, h6⟩ | ⟨h5, h6⟩
   ·rw [h6, if_neg (by omega)]
    have h7 := (full_iff (F := F) (n := n + 1) (by omega)).1 h5
    have h8 : com s F l[i] = l[i].size := by
     have h9 := (agr_iff hF _).1 h7.2
     have h10 := (com_le (w := l[i]) hF).1
     omega
    exact .inl ⟨i, hi, h8, by rw [h7.1, Nat.zero_add]; rfl⟩
   ·rw [h6, if_pos (by omega)]
    refine word_loop hF k (n + 1) (by omega) (by omega) (fun x hx hs hc => ?_) (.inr ⟨w, hw, (agr_iff hF _).1 hag⟩)
    rcases Nat.lt_or_ge n x.size with h7 | h7
    ·have h8 : x.size = n + 1 := by omega
     exact h5 x hx ((full_iff (F := F) (n := n + 1) (by omega)).2 ⟨h8, (agr_iff hF _).2 (by omega)⟩)
    ·exact h3 x hx h7 hc
  ·rw [if_neg ht]
   have hall : ∀ w ∈ l, com s F w ≤ n := by
    intro w hw
    rcases Nat.lt_or_ge n (com s F w) with h7 | h7
    ·exfalso
     apply ht
     have hag := (agr_iff (w := w) hF (n + 1)).2 (by omega)
     have hlt : F + n < s.size := by have := hag.2.1; omega
     unfold scTake scWords
     rw [Bool.and_eq_true, decide_eq_true_iff, Nat.add_sub_cancel_left, List.any_eq_true]
     exact ⟨hlt, w, hw, (fits_iff hlt).2 hag⟩
    ·exact h7
   refine .inr ⟨fun w hw hc => h3 w hw (by have := hall w hw; omega) hc, ?_⟩
   have e : most s F l = n := by
    refine Nat.le_antisymm (most_le hall) ?_
    rcases h4 with h4 | ⟨w, hw, h4⟩
    ·omega
    ·exact Nat.le_trans h4 (most_ge hw)
   rw [e]
theorem scWord_spec {s : ByteArray} {F : Nat} {l : List ByteArray} (hF : F ≤ s.size) (hne : ∀ w ∈ l, 0 < w.size) : WR s F l (scWord s F l) :=
 word_loop hF (s.size + 2) 0 (by omega) (by omega) (fun w hw h => by have := hne w hw; omega) (.inl rfl)
def Free (l : List ByteArray) : Prop := ∀ (i : Nat) (hi : i < l.length) (j : Nat) (hj : j < l.length), i ≠ j → ¬ (l[i].size ≤ l[j].size ∧ ∀ m, m < l[i].size → bt l[i] (m : Int) = bt l[j] (m : Int))
theorem WR_one {s : ByteArray} {F : Nat} {l : List ByteArray} (hF : F ≤ s.size) (hp : Free l) {r r' : Bool × Nat × Int} (h : WR s F l r) (h' : WR s F l r') : r = r' := by
 rcases h with ⟨i, hi, h1, rfl⟩ | ⟨h1, rfl⟩
 ·rcases h' with ⟨j, hj, h2, rfl⟩ | ⟨h2, rfl⟩
  ·have e : i = j := by
    by_cases e : i = j
    ·exact e
    ·exfalso
     have a1 := (agr_iff (w := l[i]) hF l[i].size).2 (by omega)
     have a2 := (agr_iff (w := l[j]) hF l[j].size).2 (by omega)
     rcases Nat.le_total l[i].size l[j].size with h | h
     ·exact hp i hi j hj e ⟨h, fun m hm => (a1.2.2 m hm).trans (a2.2.2 m (by omega)).symm⟩
     ·exact hp j hj i hi (fun e2 => e e2.symm) ⟨h, fun m hm => (a2.2.2 m hm).trans (a1.2.2 m (by omega)).symm⟩
   subst e
   rfl
  ·exact absurd h1 (h2 _ (List.getElem_mem hi))
 ·rcases h' with ⟨j, hj, h2, rfl⟩ | ⟨h2, rfl⟩
  ·exact absurd h2 (h1 _ (List.getElem_mem hj))
  ·rfl
end Go.Proofs.YtlchefonlfokgaaDoor.Q
end
section
namespace Go.Proofs.YtlchefonlfokgaaDoor.Q
open Go.RowKit Go.Proofs.YtlchefonlfokgaaDoorW.PrintWords Go.Proofs.YtlchefonlfokgaaDoorW.PrintLast Go.Proofs.YtlchefonlfokgaaDoorW.PrintMore
theorem scRun_at (p : Int → Bool) (s : ByteArray) : ∀ (k d j : Nat), d ≤ k → (∀ i, i < d → scTake s (j + i) p = true) → (d < k → scTake s (j + d) p = false) → scRun p s k j = j + d
 | 0, d, j, h1, h2, h3 => by
  obtain rfl : d = 0 := by omega
  rfl
 | k + 1, 0, j, h1, h2, h3 => by
  rw [scRun, if_neg (by have := h3 (by omega); rw [Nat.add_zero] at this; rw [this]; simp)]
  rfl
 | k + 1, d + 1, j, h1, h2, h3 => by
  rw [scRun, if_pos (by have := h2 0 (by omega); rwa [Nat.add_zero] at this), scRun_at p s k d (j + 1) (by omega) (fun i hi => by have := h2 (i + 1) (by omega); rwa [show j + 1 + i = j + (i + 1) by omega]) (fun h => by have := h3 (by omega); rwa [show j + 1 + d = j + (d + 1) by omega])]
  omega
theorem scVal_snoc {s : ByteArray} : ∀ (k o : Nat) (acc : Int), scVal s (k + 1) o acc = 10 * scVal s k o acc + (bt s ((o + k : Nat) : Int) - 48)
 | 0, o, acc => rfl
 | k + 1, o, acc => by
  rw [scVal, scVal_snoc k (o + 1), show scVal s (k + 1) o acc = scVal s k (o + 1) (10 * acc + (bt s (o : Int) - 48)) from rfl, show o + 1 + k = o + (k + 1) by omega]
structure IsDec (t : ByteArray) (m : Nat) : Prop where
 pos : 0 < t.size
 dig : ∀ i, i < t.size → 48 ≤ bt t (i : Int) ∧ bt t (i : Int) ≤ 57
 val : scVal t t.size 0 0 = (m : Int)
 lead : 0 < m → 49 ≤ bt t 0
 zero : m = 0 → t.size = 1 ∧ bt t 0 = 48
def dgt (d : Nat) : ByteArray := (⟨#[48, 49, 50, 51, 52, 53, 54, 55, 56, 57]⟩ : ByteArray).extract d (d + 1)
theorem dgt_spec : ∀ d, d < 10 → (dgt d).size = 1 ∧ bt (dgt d) ((0 : Nat) : Int) = 48 + (d : Int) := by decide +kernel
theorem IsDec.one {d : Nat} (h : d < 10) : IsDec (dgt d) d := by
 obtain ⟨h1, h2⟩ := dgt_spec d h
 refine ⟨by omega, fun i hi => ?_, ?_, fun h3 => ?_, fun h3 => ?_⟩
 ·obtain rfl : i = 0 := by omega
  omega
 ·rw [h1]
  show 10 * 0 + (bt (dgt d) ((0 : Nat) : Int) - 48) = _
  omega
 ·have : bt (dgt d) 0 = bt (dgt d) ((0 : Nat) : Int) := rfl
  omega
 ·have : bt (dgt d) 0 = bt (dgt d) ((0 : Nat) : Int) := rfl
  exact ⟨h1, by omega⟩
end Go.Proofs.YtlchefonlfokgaaDoor.Q
end
section
namespace Go.Proofs.YtlchefonlfokgaaDoor.Q
open Go.RowKit Go.Proofs.YtlchefonlfokgaaDoorW.PrintWords Go.Proofs.YtlchefonlfokgaaDoorW.PrintLast Go.Proofs.YtlchefonlfokgaaDoorW.PrintMore
theorem take_iff {s : ByteArray} {i : Nat} {p : Int → Bool} : scTake s i p = true ↔ i < s.size ∧ p (bt s (i : Int)) = true := by simp [scTake]
theorem pIs_iff {k c : Int} : pIs k c = true ↔ c = k := by simp [pIs]
theorem part_not {c : Int} (h : pPart c = true) : c ≠ 45 ∧ c ≠ 32 := by
 simp only [pPart, pLetter, pDigit, Bool.or_eq_true, Bool.and_eq_true, decide_eq_true_iff] at h
 omega
theorem letter_part {c : Int} (h : pLetter c = true) : pPart c = true := by simp [pPart, h]
def IdAt (s : ByteArray) (i j : Nat) : Prop := i < j ∧ j ≤ s.size ∧ j ≤ i + 40 ∧ pLetter (bt s (i : Int)) = true ∧ ∀ q, i < q → q < j → pPart (bt s (q : Int)) = true ∨ (bt s (q : Int) = 45 ∧ q + 1 < j ∧ pPart (bt s ((q + 1 : Nat) : Int)) = true)
def okc (t : ByteArray) (q : Nat) : Bool := pLetter (bt t (q : Int)) || (pDigit (bt t (q : Int)) && decide (0 < q)) || (bt t (q : Int) == 45 && decide (0 < q ∧ q + 1 < t.size) && !(bt t ((q - 1 : Nat) : Int) == 45))
def idFrom (t : ByteArray) : Nat → Nat → Bool
 | 0, _ => true
 | d + 1, i => okc t i && idFrom t d (i + 1)
theorem idFrom_iff {t : ByteArray} : ∀ (d i : Nat), idFrom t d i = true ↔ ∀ q, i ≤ q → q < i + d → okc t q = true
 | 0, i => by simp only [idFrom, true_iff]; intro q h1 h2; omega
 | d + 1, i => by
  rw [idFrom, Bool.and_eq_true, idFrom_iff d (i + 1)]
  constructor
  ·intro ⟨h1, h2⟩ q h3 h4
   by_cases e : q = i
   ·rw [e]; exact h1
   ·exact h2 q (by omega) (by omega)
  ·intro h
   exact ⟨h i (by omega) (by omega), fun q h1 h2 => h q (by omega) (by omega)⟩
def idB (t : ByteArray) : Bool := decide (1 ≤ t.size ∧ t.size ≤ 40) && idFrom t t.size 0
theorem idB_iff {t : ByteArray} : idB t = true ↔ IdAt t 0 t.size := by
 unfold idB
 rw [Bool.and_eq_true, decide_eq_true_iff, idFrom_iff]
 constructor
 ·intro ⟨h1, h2⟩
  have h3 := h2 0 (by omega) (by omega)
  refine ⟨by omega, by omega, by omega, ?_, fun q hq1 hq2 => ?_⟩
  ·simpa [okc] using h3
  ·have h4 := h2 q (by omega) (by omega)
   unfold okc at h4
   rw [Bool.or_eq_true, Bool.or_eq_true] at h4
   rcases h4 with (h4 | h4) | h4
   ·exact .inl (letter_part h4)
   ·rw [Bool.and_eq_true] at h4
    exact .inl (by simp [pPart, h4.1])
   ·rw [Bool.and_eq_true, Bool.and_eq_true, decide_eq_true_iff, beq_iff_eq] at h4
    have h5 := h2 (q + 1) (by omega) (by omega)
    unfold okc at h5
    rw [Bool.or_eq_true, Bool.or_eq_true] at h5
    refine .inr ⟨h4.1.1, by omega, ?_⟩
    rcases h5 with (h5 | h5) | h5
    ·exact letter_part h5
    ·rw [Bool.and_eq_true] at h5
     unfold pPart
     rw [h5.1, Bool.or_true]
    ·rw [Bool.and_eq_true] at h5
     have h6 := h5.2
     rw [Nat.add_sub_cancel, h4.1.1] at h6
     exact absurd h6 (by decide)
 ·intro ⟨h1, h2, h3, h4, h5⟩
  refine ⟨by omega, fun q hq1 hq2 => ?_⟩
  unfold okc
  rw [Bool.or_eq_true, Bool.or_eq_true]
  by_cases e : q = 0
  ·subst e; exact .inl (.inl h4)
  ·rcases h5 q (by omega) (by omega) with h6 | ⟨h6, h7, h8⟩
   ·unfold pPart at h6
    rw [Bool.or_eq_true] at h6
    rcases h6 with h6 | h6
    ·exact .inl (.inl h6)
    ·exact .inl (.inr (by rw [Bool.and_eq_true, decide_eq_true_iff]; exact ⟨h6, by omega⟩))
   ·refine .inr ?_
    rw [Bool.and_eq_true, Bool.and_eq_true, decide_eq_true_iff, beq_iff_eq]
    refine ⟨⟨h6, by omega⟩, ?_⟩
    have hne : bt t ((q - 1 : Nat) : Int) ≠ 45 := by
     by_cases e1 : q - 1 = 0
     ·rw [e1]; exact (part_not (letter_part h4)).1
     ·rcases h5 (q - 1) (by omega) (by omega) with h9 | ⟨h9, h10, h11⟩
      ·exact (part_not h9).1
      ·rw [show q - 1 + 1 = q by omega, h6] at h11
       exact absurd h11 (by decide)
    simpa using hne
theorem wN3 (n : Nat) (h : n ≤ 4611686018427387904) : wrap64 ((n : Int) + 1) = ((n + 1 : Nat) : Int) := by unfold wrap64; omega
theorem id_l0 {t : ByteArray} (ht : t.size ≤ 40) : ∀ (d i : Nat), i + d = t.size → Ev (fun k => computusref17_Identifier.l0 k t (i : Int)) (idFrom t d i)
 | 0, i, hi => by
  refine Ev.step (fun k => ?_) (Ev.now _)
  simp only [computusref17_Identifier.l0]
  rw [if_neg (by omega)]
  rfl
 | d + 1, i, hi => by
  have ih := id_l0 ht d (i + 1) (by omega)
  have e1 : wrap64 ((t.size : Int) - 1) = (t.size : Int) - 1 := by unfold wrap64; omega
  have e2 : wrap64 ((i : Int) - 1) = (i : Int) - 1 := by unfold wrap64; omega
  have hj3 : ∀ b : Bool, (b = true → okc t i = true) → (b = false → pLetter (bt t (i : Int)) = false ∧ (pDigit (bt t (i : Int)) && decide (0 < i)) = false) → Ev (fun k => computusref17_Identifier.j3 k t (i : Int) (bt t (i : Int)) b) (idFrom t (d + 1) i) := by
   intro b hb1 hb2
   cases b with
   | true =>
    rw [idFrom, hb1 rfl, Bool.true_and]
    refine Ev.step (fun k => ?_) ih
    simp only [computusref17_Identifier.j3]
    rw [if_pos trivial, wN3 i (by omega)]
   | false =>
    obtain ⟨h1, h2⟩ := hb2 rfl
    have ho : okc t i = (bt t (i : Int) == 45 && decide (0 < i ∧ i + 1 < t.size) && !(bt t ((i - 1 : Nat) : Int) == 45)) := by unfold okc; rw [h1, h2]; rfl
    have hno : okc t i = false → Ev (fun _ : Nat => some false) (idFrom t (d + 1) i) := fun h => by rw [idFrom, h, Bool.false_and]; exact Ev.now _
    by_cases h45 : bt t (i : Int) = 45
    ·by_cases h0 : i = 0
     ·refine Ev.step (fun k => ?_) (hno (by rw [ho, decide_eq_false (by omega)]; simp))
      simp only [computusref17_Identifier.j3]
      rw [if_neg (by simp), if_pos h45, if_pos (by omega)]
     ·by_cases hl : i + 1 = t.size
      ·refine Ev.step (fun k => ?_) (hno (by rw [ho, decide_eq_false (by omega)]; simp))
       simp only [computusref17_Identifier.j3]
       rw [if_neg (by simp), if_pos h45, if_neg (by omega), e1, if_pos (by omega)]
      ·have e3 : (i : Int) - 1 = ((i - 1 : Nat) : Int) := by omega
       by_cases hp : bt t ((i - 1 : Nat) : Int) = 45
       ·refine Ev.step (fun k => ?_) (hno (by rw [ho, hp]; simp))
        simp only [computusref17_Identifier.j3]
        rw [if_neg (by simp), if_pos h45, if_neg (by omega), e1, if_neg (by omega), e2, if_pos (by omega), if_pos (by omega), e3, if_pos hp]
       ·rw [idFrom, ho, h45, decide_eq_true (by omega), show (bt t ((i - 1 : Nat) : Int) == 45) = false from by simpa using hp]
        refine Ev.step (fun k => ?_) ih
        simp only [computusref17_Identifier.j3]
        rw [if_neg (by simp), if_pos trivial, if_neg (by omega), e1, if_neg (by omega), e2, if_pos (by omega), if_pos (by omega), e3, if_neg hp, wN3 i (by omega)]
    ·refine Ev.step (fun k => ?_) (hno (by rw [ho, show (bt t (i : Int) == 45) = false from by simpa using h45]; simp))
     simp only [computusref17_Identifier.j3]
     rw [if_neg (by simp), if_neg h45]
  have hj2 : ∀ b : Bool, b = pLetter (bt t (i : Int)) → Ev (fun k => computusref17_Identifier.j2 k t (i : Int) (bt t (i : Int)) b) (idFrom t (d + 1) i) := by
   intro b hb
   cases b with
   | true =>
    rw [idFrom, show okc t i = true from by unfold okc; rw [← hb]; rfl, Bool.true_and]
    refine Ev.step (fun k => ?_) ih
    simp only [computusref17_Identifier.j2]
    rw [if_pos trivial, wN3 i (by omega)]
   | false =>
    by_cases h48 : bt t (i : Int) ≥ 48
    ·by_cases h57 : bt t (i : Int) ≤ 57
     ·have hd : pDigit (bt t (i : Int)) = true := by simp [pDigit]; omega
      refine Ev.step (fun k => ?_) (hj3 (decide ((i : Int) > 0)) (fun h => ?_) (fun h => ?_))
      ·simp only [computusref17_Identifier.j2]
       rw [if_neg (by simp), if_pos h48, if_pos h57]
      ·unfold okc; rw [hd, decide_eq_true (by simpa using h)]; simp
      ·refine ⟨hb.symm, ?_⟩
       rw [hd, decide_eq_false (by simpa using h)]; rfl
     ·refine Ev.step (fun k => ?_) (hj3 false (fun h => by simp at h) (fun _ => ⟨hb.symm, ?_⟩))
      ·simp only [computusref17_Identifier.j2]
       rw [if_neg (by simp), if_pos h48, if_neg h57]
      ·rw [show pDigit (bt t (i : Int)) = false from by simp [pDigit, h57]]; rfl
    ·refine Ev.step (fun k => ?_) (hj3 false (fun h => by simp at h) (fun _ => ⟨hb.symm, ?_⟩))
     ·simp only [computusref17_Identifier.j2]
      rw [if_neg (by simp), if_neg h48]
     ·rw [show pDigit (bt t (i : Int)) = false from by simp [pDigit]; omega]; rfl
  by_cases h97 : bt t (i : Int) ≥ 97
  ·refine Ev.step (fun k => ?_) (hj2 (decide (bt t (i : Int) ≤ 122)) (by simp [pLetter]; omega))
   simp only [computusref17_Identifier.l0]
   rw [if_pos (by omega), if_pos (by omega), if_pos h97]
  ·refine Ev.step (fun k => ?_) (hj2 false (by simp [pLetter]; omega))
   simp only [computusref17_Identifier.l0]
   rw [if_pos (by omega), if_pos (by omega), if_neg h97]
theorem id_ev (t : ByteArray) : Ev (fun k => computusref17_Identifier.f k t) (idB t) := by
 unfold computusref17_Identifier.f idB
 by_cases h1 : t.size < 1
 ·rw [show decide (1 ≤ t.size ∧ t.size ≤ 40) = false from decide_eq_false (by omega), Bool.false_and]
  refine Ev.congr (fun k => by rw [if_pos (by omega)]) (Ev.step (fun k => ?_) (Ev.now _))
  simp only [computusref17_Identifier.j0]
  rw [if_pos trivial]
 ·by_cases h2 : t.size ≤ 40
  ·rw [show decide (1 ≤ t.size ∧ t.size ≤ 40) = true from decide_eq_true (by omega), Bool.true_and]
   refine Ev.congr (fun k => by rw [if_neg (by omega), decide_eq_false (by omega)]) (Ev.step (fun k => ?_) (id_l0 h2 t.size 0 (by omega)))
   simp only [computusref17_Identifier.j0]
   rw [if_neg (by simp)]
   rfl
  ·rw [show decide (1 ≤ t.size ∧ t.size ≤ 40) = false from decide_eq_false (by omega), Bool.false_and]
   refine Ev.congr (fun k => by rw [if_neg (by omega), decide_eq_true (by omega)]) (Ev.step (fun k => ?_) (Ev.now _))
   simp only [computusref17_Identifier.j0]
   rw [if_pos trivial]
end Go.Proofs.YtlchefonlfokgaaDoor.Q
end
