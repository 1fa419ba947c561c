/- What is proved: the plain statement of LinescanMatchesReference. -/
import Derived.Test.YtkpicinbckedoaaQx2
import Derived.Test.YtkpicinbckedoaaQx5
import Derived.Test.YtkpicinbckedoaaPL2
import Derived.Test.YtkpicinbckedoaaHWord
namespace Go.Proofs.Ytkpicinbckedoaa.Q
open Go.RowKit Go.Proofs.YtkpicinbckedoaaW.PrintWords Go.Proofs.YtkpicinbckedoaaW.PrintLast
set_option linter.unusedVariables false
set_option linter.unusedSimpArgs false

theorem wN (n : Nat) (h : n ≤ 4611686018427387904) : wrap64 ((n : Int) + 1) = ((n + 1 : Nat) : Int) := by unfold wrap64; omega
theorem wA (n m : Nat) (h : n + m ≤ 4611686018427387904) : wrap64 ((n : Int) + (m : Int)) = ((n + m : Nat) : Int) := by unfold wrap64; omega
theorem rdW {W : List ByteArray} {i : Nat} (h : i < W.length) : rdOf ByteArray.empty W (i : Int) = W[i] := by simp [rdOf, List.getD, h]
theorem most_snoc (s : ByteArray) (F : Nat) (w : ByteArray) : ∀ l, most s F (l ++ [w]) = max (most s F l) (com s F w)
  | [] => by simp [most]
  | x :: xs => by simp only [List.cons_append, most]; rw [most_snoc s F w xs]; omega
theorem most_take {s : ByteArray} {F : Nat} {l : List ByteArray} {i : Nat} (h : i < l.length) : most s F (l.take (i + 1)) = max (most s F (l.take i)) (com s F l[i]) := by
  rw [List.take_succ_eq_append_getElem h, most_snoc]
instance (l : List ByteArray) : Decidable (Free l) := by unfold Free; infer_instance
theorem words_ok (x : Int) : ∃ l, computuslaw25_words.f x = some l ∧ Free l ∧ (∀ w ∈ l, 0 < w.size ∧ w.size ≤ 6) ∧ l.length ≤ 3 := by
  unfold computuslaw25_words.f
  split
  · exact ⟨_, rfl, by decide +kernel, by decide +kernel, by decide⟩
  · split
    · exact ⟨_, rfl, by decide +kernel, by decide +kernel, by decide⟩
    · split
      · exact ⟨_, rfl, by decide +kernel, by decide +kernel, by decide⟩
      · exact ⟨_, rfl, by decide +kernel, by decide +kernel, by decide⟩

/-! ### Word -/
theorem pre_l0 {s w : ByteArray} {F : Nat} (hs : s.size ≤ 1000) (hF : F ≤ s.size) (hw : w.size ≤ 6) : ∀ (d c : Nat), c + d = w.size → Ev (fun k => computusref25_prefix.l0 k s (F : Int) w (c : Int)) ((comL s F w d c : Nat) : Int)
  | 0, c, hc => by
    rw [comL]
    refine Ev.step (fun k => ?_) (Ev.now _)
    simp only [computusref25_prefix.l0]
    rw [if_neg (by omega)]
  | d + 1, c, hc => by
    rw [comL]
    by_cases h1 : F + c < s.size
    · by_cases h2 : bt s ((F + c : Nat) : Int) = bt w (c : Int)
      · rw [if_pos ⟨by omega, h1, h2⟩]
        refine Ev.step (fun k => ?_) (pre_l0 hs hF hw d (c + 1) (by omega))
        simp only [computusref25_prefix.l0]
        rw [wA F c (by omega), if_pos (by omega), if_pos (by omega), if_pos (by omega), if_pos (by omega), if_pos h2, wN c (by omega)]
      · rw [if_neg (fun h3 => h2 h3.2.2)]
        refine Ev.step (fun k => ?_) (Ev.now _)
        simp only [computusref25_prefix.l0]
        rw [wA F c (by omega), if_pos (by omega), if_pos (by omega), if_pos (by omega), if_pos (by omega), if_neg h2]
    · rw [if_neg (fun h3 => h1 h3.2.1)]
      refine Ev.step (fun k => ?_) (Ev.now _)
      simp only [computusref25_prefix.l0]
      rw [wA F c (by omega), if_pos (by omega), if_neg (by omega)]
theorem pre_ev {s w : ByteArray} {F : Nat} (hs : s.size ≤ 1000) (hF : F ≤ s.size) (hw : w.size ≤ 6) : Ev (fun k => computusref25_prefix.f k s (F : Int) w) ((com s F w : Nat) : Int) := pre_l0 hs hF hw w.size 0 (by omega)
theorem word_l0 {s : ByteArray} {F : Nat} {W : List ByteArray} (hs : s.size ≤ 1000) (hF : F ≤ s.size) (hW : W.length ≤ 3) (hsz : ∀ w ∈ W, w.size ≤ 6) (hfree : Free W) {r : Bool × Nat × Int} (hr : WR s F W r) : ∀ (d i : Nat), i + d = W.length → (∀ j, (h : j < W.length) → j < i → com s F W[j] ≠ W[j].size) → Ev (fun k => computusref25_Word.l0 k W ((most s F (W.take i) : Nat) : Int) (i : Int) s (F : Int) false) (s, (r.2.1 : Int), !r.1, if r.1 then r.2.2 else -1)
  | 0, i, hi, hn => by
    rw [List.take_of_length_le (by omega)]
    have hm : most s F W ≤ 6 := most_le (fun w hw => Nat.le_trans (com_le hF).1 (hsz w hw))
    obtain rfl : r = (false, F + most s F W, -1) := by
      rcases hr with ⟨k, hk, h1, h2⟩ | ⟨_, h2⟩
      · exact absurd h1 (hn k hk (by omega))
      · exact h2
    refine Ev.step (fun k => ?_) (Ev.now _)
    simp only [computusref25_Word.l0, computusref25_fail.f, Option.bind_some]
    rw [if_neg (by omega), wA F _ (by omega)]
    simp
  | d + 1, i, hi, hn => by
    have hlt : i < W.length := by omega
    have hcl := com_le (w := W[i]) hF
    have hwi := hsz _ (List.getElem_mem hlt)
    by_cases hf : com s F W[i] = W[i].size
    · obtain rfl : r = (true, F + W[i].size, (i : Int)) := WR_one hF hfree hr (.inl ⟨i, hlt, hf, rfl⟩)
      refine Ev.step (fun k => ?_) (Ev.bind (pre_ev (w := W[i]) hs hF hwi) (f := fun k t221 => if t221 = (W[i].size : Int) then some (s, wrap64 ((F : Int) + t221), false, (i : Int)) else if t221 > ((most s F (W.take i) : Nat) : Int) then computusref25_Word.l0 k W t221 (wrap64 ((i : Int) + 1)) s (F : Int) false else computusref25_Word.l0 k W ((most s F (W.take i) : Nat) : Int) (wrap64 ((i : Int) + 1)) s (F : Int) false) (Ev.congr (fun k => ?_) (Ev.now _)))
      · simp only [computusref25_Word.l0]
        rw [if_pos (by omega), if_pos (by omega), rdW hlt]
      · rw [if_pos (by omega), wA F _ (by omega), hf]
        simp
    · have ih := word_l0 hs hF hW hsz hfree hr d (i + 1) (by omega) (fun j hj hji => by
        rcases Nat.lt_or_ge j i with h | h
        · exact hn j hj h
        · obtain rfl : j = i := by omega
          exact hf)
      refine Ev.step (fun k => ?_) (Ev.bind (pre_ev (w := W[i]) hs hF hwi) (f := fun k t221 => if t221 = (W[i].size : Int) then some (s, wrap64 ((F : Int) + t221), false, (i : Int)) else if t221 > ((most s F (W.take i) : Nat) : Int) then computusref25_Word.l0 k W t221 (wrap64 ((i : Int) + 1)) s (F : Int) false else computusref25_Word.l0 k W ((most s F (W.take i) : Nat) : Int) (wrap64 ((i : Int) + 1)) s (F : Int) false) (Ev.congr (fun k => ?_) ih))
      · simp only [computusref25_Word.l0]
        rw [if_pos (by omega), if_pos (by omega), rdW hlt]
      · rw [if_neg (by omega), most_take hlt, wN i (by omega)]
        by_cases h3 : ((com s F W[i] : Nat) : Int) > ((most s F (W.take i) : Nat) : Int)
        · rw [if_pos h3, Nat.max_eq_right (by omega)]
        · rw [if_neg h3, Nat.max_eq_left (by omega)]
theorem word_step {s : ByteArray} {F : Nat} (hs : s.size ≤ 1000) (hF : F ≤ s.size) (b : Bool) {W : List ByteArray} (hfree : Free W) (hne : ∀ w ∈ W, 0 < w.size ∧ w.size ≤ 6) (hW : W.length ≤ 3) :
    ∃ (v : Int) (F' : Nat) (b' : Bool), linescan_Scanner_Word.f s (F : Int) b W = some (v, s, (F' : Int), b') ∧ F' ≤ s.size ∧ Ev (fun k => computusref25_Word.f k s (F : Int) b W) (s, (F' : Int), b', v) := by
  cases b with
  | true => exact ⟨-1, F, true, rfl, hF, Ev.congr (fun k => rfl) (Ev.now _)⟩
  | false =>
    have hr := scWord_spec (s := s) (l := W) hF (fun w hw => (hne w hw).1)
    refine ⟨_, (scWord s F W).2.1, !(scWord s F W).1, ?_, ?_, word_l0 hs hF hW (fun w hw => (hne w hw).2) hfree hr W.length 0 (by omega) (fun j _ h => by omega)⟩
    · unfold linescan_Scanner_Word.f
      rw [if_neg (by simp), if_pos ⟨by omega, by omega, by omega⟩]
      rfl
    · rcases hr with ⟨k, hk, h1, h2⟩ | ⟨_, h2⟩
      · rw [h2]
        have := (com_le (w := W[k]) hF).2
        show F + W[k].size ≤ s.size
        omega
      · rw [h2]
        show F + most s F W ≤ s.size
        have := most_le (s := s) (F := F) (l := W) (n := s.size - F) (fun w _ => by have := (com_le (w := w) hF).2; omega)
        omega

end Go.Proofs.Ytkpicinbckedoaa.Q
