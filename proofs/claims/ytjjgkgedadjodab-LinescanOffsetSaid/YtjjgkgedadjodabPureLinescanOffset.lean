/- What is proved: the plain statement of LinescanOffset. -/
import Derived.Test.YtjjgkgedadjodabQx3
import Derived.Test.YtjjgkgedadjodabPL1
namespace Go.Proofs.Ytjjgkgedadjodab.Q
open Go.RowKit Go.Proofs.YtjjgkgedadjodabW.PrintWords Go.Proofs.YtjjgkgedadjodabW.PrintLast
set_option linter.unusedVariables false
set_option linter.unusedSimpArgs false

theorem wN (n : Nat) (h : n ≤ 4611686018427387904) : wrap64 ((n : Int) + 1) = ((n + 1 : Nat) : Int) := by unfold wrap64; omega
theorem rdW {W : List ByteArray} {i : Nat} (h : i < W.length) : rdOf ByteArray.empty W (i : Int) = W[i] := by simp [rdOf, List.getD, h]
theorem most_snoc (s : ByteArray) (F : Nat) (w : ByteArray) : ∀ l, most s F (l ++ [w]) = max (most s F l) (com s F w)
  | [] => by simp [most]
  | x :: xs => by simp only [List.cons_append, most]; rw [most_snoc s F w xs]; omega
theorem most_take {s : ByteArray} {F : Nat} {l : List ByteArray} {i : Nat} (h : i < l.length) : most s F (l.take (i + 1)) = max (most s F (l.take i)) (com s F l[i]) := by
  rw [List.take_succ_eq_append_getElem h, most_snoc]
theorem mx_nat (a b : Nat) : mx (a : Int) (b : Int) = ((max a b : Nat) : Int) := by unfold mx; split <;> omega

instance (l : List ByteArray) : Decidable (Free l) := by unfold Free; infer_instance
theorem words_ok (x : Int) : ∃ l, computuslaw25_words.f x = some l ∧ Free l ∧ (∀ w ∈ l, 0 < w.size) ∧ l.length ≤ 3 := by
  unfold computuslaw25_words.f
  split
  · exact ⟨_, rfl, by decide +kernel, by decide +kernel, by decide⟩
  · split
    · exact ⟨_, rfl, by decide +kernel, by decide +kernel, by decide⟩
    · split
      · exact ⟨_, rfl, by decide +kernel, by decide +kernel, by decide⟩
      · exact ⟨_, rfl, by decide +kernel, by decide +kernel, by decide⟩

theorem off_l1 {s : ByteArray} {W : List ByteArray} {x7 x8 : Int} {i : Nat} (hi : i < W.length) (hs : s.size ≤ 1000) {p : Int} {b : Bool} : ∀ (d c : Nat), c + d = W[i].size → Ev (fun k => computuslaw25_LinescanOffset.j3 k s W x7 x8 (i : Int) ((comL s 0 W[i] d c : Nat) : Int) s p b) true → Ev (fun k => computuslaw25_LinescanOffset.l1 k s W x7 x8 (i : Int) (c : Int) s p b) true
  | 0, c, hc, h => by
    rw [comL] at h
    refine Ev.step (fun k => ?_) h
    simp only [computuslaw25_LinescanOffset.l1]
    rw [if_pos (by omega), if_pos (by omega), rdW hi, if_neg (by omega)]
  | d + 1, c, hc, h => by
    rw [comL] at h
    by_cases h1 : c < s.size
    · by_cases h2 : bt s (c : Int) = bt W[i] (c : Int)
      · rw [if_pos ⟨by omega, by omega, by rw [Nat.zero_add]; exact h2⟩] at h
        refine Ev.step (fun k => ?_) (off_l1 hi hs d (c + 1) (by omega) h)
        simp only [computuslaw25_LinescanOffset.l1]
        rw [if_pos (by omega), if_pos (by omega), rdW hi, if_pos (by omega), if_pos (by omega), if_pos (by omega), if_pos h2.symm, wN c (by omega)]
      · rw [if_neg (fun h3 => h2 (by have := h3.2.2; rwa [Nat.zero_add] at this))] at h
        refine Ev.step (fun k => ?_) h
        simp only [computuslaw25_LinescanOffset.l1]
        rw [if_pos (by omega), if_pos (by omega), rdW hi, if_pos (by omega), if_pos (by omega), if_pos (by omega), if_neg (fun e => h2 e.symm)]
    · rw [if_neg (fun h3 => h1 (by have := h3.2.1; omega))] at h
      refine Ev.step (fun k => ?_) h
      simp only [computuslaw25_LinescanOffset.l1]
      rw [if_pos (by omega), if_pos (by omega), rdW hi, if_pos (by omega), if_neg (by omega)]

theorem off_l0 {s : ByteArray} {W : List ByteArray} (hs : s.size ≤ 1000) (hW : W.length ≤ 3) (hfree : Free W) {r : Bool × Nat × Int} (hr : WR s 0 W r) : ∀ (d i : Nat), i + d = W.length → (∀ j, (h : j < W.length) → j < i → com s 0 W[j] ≠ W[j].size) → Ev (fun k => computuslaw25_LinescanOffset.l0 k s W (if r.1 then r.2.2 else -1) ((most s 0 (W.take i) : Nat) : Int) (i : Int) s (r.2.1 : Int) (!r.1)) true
  | 0, i, hi, hn => by
    rw [List.take_of_length_le (by omega)]
    obtain rfl : r = (false, 0 + most s 0 W, -1) := by
      rcases hr with ⟨k, hk, h1, h2⟩ | ⟨_, h2⟩
      · exact absurd h1 (hn k hk (by omega))
      · exact h2
    refine Ev.step (fun k => ?_) (Ev.now true)
    simp only [computuslaw25_LinescanOffset.l0]
    rw [if_neg (by omega)]
    simp [linescan_Scanner_Err.f, linescan_Scanner_Offset.f]
  | d + 1, i, hi, hn => by
    have hlt : i < W.length := by omega
    have hcl := com_le (w := W[i]) (Nat.zero_le s.size)
    refine Ev.step (fun k => ?_) (off_l1 (i := i) hlt hs W[i].size 0 (by omega) ?_) (f := fun k => computuslaw25_LinescanOffset.l1 k s W (if r.1 then r.2.2 else -1) ((most s 0 (W.take i) : Nat) : Int) (i : Int) ((0 : Nat) : Int) s (r.2.1 : Int) (!r.1))
    · simp only [computuslaw25_LinescanOffset.l0]
      rw [if_pos (by omega)]
      rfl
    · show Ev (fun k => computuslaw25_LinescanOffset.j3 k s W _ _ (i : Int) ((com s 0 W[i] : Nat) : Int) s _ _) true
      by_cases hf : com s 0 W[i] = W[i].size
      · obtain rfl : r = (true, 0 + W[i].size, (i : Int)) := WR_one (Nat.zero_le _) hfree hr (.inl ⟨i, hlt, hf, rfl⟩)
        refine Ev.step (fun k => ?_) (Ev.now true)
        simp only [computuslaw25_LinescanOffset.j3]
        rw [if_pos (by omega), if_pos (by omega), rdW hlt, if_pos (by omega)]
        simp [linescan_Scanner_Err.f, linescan_Scanner_Offset.f, hf]
      · refine Ev.step (fun k => ?_) (off_l0 hs hW hfree hr d (i + 1) (by omega) (fun j hj hji => ?_))
        · simp only [computuslaw25_LinescanOffset.j3]
          rw [if_pos (by omega), if_pos (by omega), rdW hlt, if_neg (by omega), wN i (by omega), mx_nat, most_take hlt]
        · rcases Nat.lt_or_ge j i with h | h
          · exact hn j hj h
          · obtain rfl : j = i := by omega
            exact hf
theorem aw_ev : Ev (fun _ => computuslaw25_awake.f) true := Ev.now true
end Go.Proofs.Ytjjgkgedadjodab.Q
namespace Go.Proofs.Ytjjgkgedadjodab.Pure
open Go.RowKit Go.Proofs.YtjjgkgedadjodabW.PrintWords Go.Proofs.YtjjgkgedadjodabW.PrintLast Go.Proofs.Ytjjgkgedadjodab.Q
theorem LinescanOffset : Q.computuslaw25_LinescanOffset.Pure := by
  intro s x hs hx
  by_cases h0 : s.size ≤ 1000
  · obtain ⟨W, hW, hfree, hne, hlen⟩ := words_ok (wrap64 x)
    have hr := scWord_spec (s := s) (l := W) (Nat.zero_le _) hne
    have h1 := off_l0 h0 hlen hfree hr W.length 0 (by omega) (fun j _ h => by omega)
    have h2 : Ev (fun k => computuslaw25_LinescanOffset.j0 k s x (decide ((s.size : Int) > 1000))) true := by
      refine Ev.step (fun k => ?_) h1
      simp only [computuslaw25_LinescanOffset.j0]
      rw [decide_eq_false (by omega), if_neg (by simp), hW]
      simp only [Option.bind_some, linescan_New.f]
      unfold linescan_Scanner_Word.f
      rw [if_neg (by simp), if_pos ⟨by omega, by omega, by omega⟩]
      rfl
    exact Ev.rounds (Ev.congr (fun k => by rfl) h2)
  · have h2 : Ev (fun k => computuslaw25_LinescanOffset.j0 k s x (decide ((s.size : Int) > 1000))) true := by
      refine Ev.step (fun k => ?_) aw_ev
      simp only [computuslaw25_LinescanOffset.j0]
      rw [decide_eq_true (by omega), if_pos rfl]
      rfl
    exact Ev.rounds (Ev.congr (fun k => by rfl) h2)
end Go.Proofs.Ytjjgkgedadjodab.Pure
