/- What is proved: the plain statement of TransferNone: without impeded feasts nothing is moved and all free days remain. -/
import Derived.Test.YtjjgkgedadjodaaQx16
import Derived.Test.YtjjgkgedadjodaaPT2
namespace Go.Proofs.Ytjjgkgedadjodaa.Q
open Go.RowKit Go.Proofs.YtjjgkgedadjodaaW.PrintWords Go.Proofs.YtjjgkgedadjodaaW.PrintLast
set_option linter.unusedVariables false
set_option linter.unusedSimpArgs false

theorem days_none (free : List Bool) : ∀ (n d : Nat), transfer_days free d (List.replicate n []) [] [] = some []
  | 0, _ => rfl
  | n + 1, d => by
    rw [List.replicate_succ]
    simp only [transfer_days, transfer_feasts, Option.bind_some]
    exact days_none free n (d + 1)
theorem from_none : ∀ (n d : Nat), fromDay d (List.replicate n []) 0 = 0
  | 0, _ => rfl
  | n + 1, d => by
    rw [List.replicate_succ]
    unfold fromDay
    rw [if_neg (by simp)]
    exact from_none n (d + 1)

theorem none_l0 (l0 : List Bool) (h0 : l0.length ≤ 400) : ∀ (n i s : Nat), i + n = l0.length → s ≤ i → roomCnt l0 [] n i s = roomCnt l0 [] l0.length 0 0 → Ev (fun k => computuslaw22_TransferNone.l0 k l0 (s : Int) (i : Int)) true := by
  intro n
  induction n with
  | zero =>
    intro i s hi hs hc
    have ha : transfer_Assign.f l0 (List.replicate l0.length []) = some ([], 0) := by
      unfold transfer_Assign.f
      rw [if_pos (by simp), if_pos (by simp), days_none]
      rfl
    have hr := room_ev l0 (List.replicate l0.length []) h0 ha (by simp) (by simp)
    rw [if_pos rfl, from_none, Nat.sub_zero, ← hc] at hr
    refine Ev.step (f := fun k => (transfer_Room.f k l0 (List.replicate l0.length [])).bind fun t341 => some (t341 == (s : Int))) (fun k => ?_) (Ev.bind hr (Ev.congr (fun k => ?_) (Ev.now true)))
    · simp only [computuslaw22_TransferNone.l0]
      rw [if_neg (by omega), if_pos (by omega), if_pos (by simp; omega), Int.toNat_natCast, ha]
      simp
    · simp [roomCnt]
  | succ n ih =>
    intro i s hi hs hc
    rw [show roomCnt l0 [] (n + 1) i s = roomCnt l0 [] n (i + 1) (if l0.getD i false = true ∧ ¬ ∃ x ∈ ([] : List S36), x.f2 = (i : Int) then s + 1 else s) from rfl] at hc
    by_cases hf : l0.getD i false = true
    · rw [if_pos ⟨hf, by simp⟩] at hc
      refine Ev.step (fun k => ?_) (ih (i + 1) (s + 1) (by omega) (by omega) hc)
      simp only [computuslaw22_TransferNone.l0]
      rw [if_pos (by omega), if_pos (by omega), rdB, if_pos hf, wN i (by omega), wN s (by omega)]
    · rw [if_neg (fun h => hf h.1)] at hc
      refine Ev.step (fun k => ?_) (ih (i + 1) s (by omega) (by omega) hc)
      simp only [computuslaw22_TransferNone.l0]
      rw [if_pos (by omega), if_pos (by omega), rdB, if_neg hf, wN i (by omega)]
end Go.Proofs.Ytjjgkgedadjodaa.Q
namespace Go.Proofs.Ytjjgkgedadjodaa.Pure
open Go.RowKit Go.Proofs.YtjjgkgedadjodaaW.PrintWords Go.Proofs.YtjjgkgedadjodaaW.PrintLast Go.Proofs.Ytjjgkgedadjodaa.Q
theorem TransferNone : Q.computuslaw22_TransferNone.Pure := by
  intro l0 _
  have hT : Ev (fun k => computuslaw22_TransferNone.j0 k l0 true) true := Ev.step (fun k => rfl) (Ev.bind awake_ev (Ev.now true))
  by_cases h0 : l0.length ≤ 400
  · have hF : Ev (fun k => computuslaw22_TransferNone.j0 k l0 false) true := Ev.step (fun k => rfl) (none_l0 l0 h0 l0.length 0 0 (by omega) (by omega) rfl)
    refine Ev.rounds (Ev.congr (fun k => rfl) (Ev.bind awake_ev (Ev.congr (fun k => ?_) hF)))
    show (if true = true then _ else _) = _
    rw [if_pos rfl, decide_eq_false (by omega)]
  · refine Ev.rounds (Ev.congr (fun k => rfl) (Ev.bind awake_ev (Ev.congr (fun k => ?_) hT)))
    show (if true = true then _ else _) = _
    rw [if_pos rfl, decide_eq_true (by omega)]
end Go.Proofs.Ytjjgkgedadjodaa.Pure
