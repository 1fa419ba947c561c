/- What is proved: the plain statement of TransferMatchesReference: moves, look-ups and room are those of the reference. -/
import Derived.Test.YtjjgkgedadjodaaQx10
import Derived.Test.YtjjgkgedadjodaaPT2
namespace Go.Proofs.Ytjjgkgedadjodaa.Q
open Go.RowKit Go.Proofs.YtjjgkgedadjodaaW.PrintWords Go.Proofs.YtjjgkgedadjodaaW.PrintLast
set_option linter.unusedVariables false
set_option linter.unusedSimpArgs false

/-- How many moves are to a day. -/
def cntTo (out : List S36) (d : Int) : Nat := (out.filter fun m => decide (m.f2 = d)).length
theorem cntTo_cons (m : S36) (l : List S36) (d : Int) : cntTo (m :: l) d = cntTo l d + if m.f2 = d then 1 else 0 := by
  unfold cntTo
  by_cases h : m.f2 = d <;> simp [List.filter_cons, h]
theorem cntTo_ok {free : List Bool} {out : List S36} (h : AllOk free out) (d : Nat) : cntTo out (d : Int) = if free.getD d false = true ∧ ∃ x ∈ out, x.f2 = (d : Int) then 1 else 0 := by
  have gen : ∀ n, n ≤ out.length → cntTo (out.take n) (d : Int) = if free.getD d false = true ∧ ∃ x ∈ out.take n, x.f2 = (d : Int) then 1 else 0 := by
    intro n
    induction n with
    | zero => intro _; simp [cntTo]
    | succ n ih =>
      intro hn
      have h1 := ih (by omega)
      obtain ⟨m0, m1, m2, m3, m4, m5⟩ := h n (by omega)
      rw [List.take_succ_eq_append_getElem (by omega)]
      have e1 : cntTo (out.take n ++ [out[n]]) (d : Int) = cntTo (out.take n) (d : Int) + if out[n].f2 = (d : Int) then 1 else 0 := by
        unfold cntTo
        rw [List.filter_append, List.length_append]
        by_cases hd : out[n].f2 = (d : Int) <;> simp [hd]
      rw [e1, h1]
      by_cases hd : out[n].f2 = (d : Int)
      · have hfree : free.getD d false = true := by rw [hd] at m3; simpa using m3
        have hno : ¬ ∃ x ∈ out.take n, x.f2 = (d : Int) := by rintro ⟨x, hx, he⟩; exact m4 x hx (he.trans hd.symm)
        have hyes : ∃ x ∈ out.take n ++ [out[n]], x.f2 = (d : Int) := ⟨out[n], List.mem_append_right _ List.mem_cons_self, hd⟩
        rw [if_neg (fun h => hno h.2), if_pos hd, if_pos ⟨hfree, hyes⟩]
      · rw [if_neg hd]
        have hiff : (∃ x ∈ out.take n ++ [out[n]], x.f2 = (d : Int)) ↔ ∃ x ∈ out.take n, x.f2 = (d : Int) := by
          constructor
          · rintro ⟨x, hx, he⟩
            rcases List.mem_append.1 hx with hx | hx
            · exact ⟨x, hx, he⟩
            · simp at hx; subst hx; exact absurd he hd
          · rintro ⟨x, hx, he⟩
            exact ⟨x, List.mem_append_left _ hx, he⟩
        simp only [hiff, Nat.add_zero]
  have := gen out.length (Nat.le_refl _)
  rwa [List.take_length] at this

section
variable (l0 : List Bool) (h0 : l0.length ≤ 400) (l1 : List (List Int)) (h1 : l1.length ≤ 400) (out : List S36) (ho : out.length ≤ 400) (e : Int)
include ho
theorem match_l3 (d : Nat) (hd : d ≤ 400) (r : Bool) : ∀ (n i : Nat) (z : Int), i + n = out.length → -1000 ≤ z → z ≤ 1000 →
    Ev (fun k => computuslaw22_TransferMatchesReference.l2 k l0 l1 (mvs out) e (z - cntTo (out.drop i) (d : Int)) ((d + 1 : Nat) : Int)) r →
    -500 + (n : Int) ≤ z →
    Ev (fun k => computuslaw22_TransferMatchesReference.l3 k l0 l1 (mvs out) e z (d : Int) (i : Int)) r := by
  intro n
  induction n with
  | zero =>
    intro i z hi hz1 hz2 hr _
    rw [List.drop_of_length_le (by omega)] at hr
    refine Ev.step (fun k => ?_) hr
    simp only [computuslaw22_TransferMatchesReference.l3]
    rw [if_neg (by rw [mvs_len]; omega), wN d (by omega)]
    simp [cntTo]
  | succ n ih =>
    intro i z hi hz1 hz2 hr hz3
    have hil : i < out.length := by omega
    rw [List.drop_eq_getElem_cons hil, cntTo_cons] at hr
    by_cases he : out[i].f2 = (d : Int)
    · rw [if_pos he] at hr
      refine Ev.step (fun k => ?_) (ih (i + 1) (z - 1) (by omega) (by omega) (by omega) ?_ (by omega))
      · simp only [computuslaw22_TransferMatchesReference.l3]
        rw [if_pos (by rw [mvs_len]; omega), if_pos (by omega), rdR out i hil]
        simp only
        rw [if_pos he, wN i (by omega), show wrap64 (z - 1) = z - 1 by unfold wrap64; omega]
      · rw [show z - 1 - (cntTo (out.drop (i + 1)) (d : Int) : Int) = z - ((cntTo (out.drop (i + 1)) (d : Int) + 1 : Nat) : Int) by omega]
        exact hr
    · rw [if_neg he] at hr
      refine Ev.step (fun k => ?_) (ih (i + 1) z (by omega) (by omega) (by omega) hr (by omega))
      simp only [computuslaw22_TransferMatchesReference.l3]
      rw [if_pos (by rw [mvs_len]; omega), if_pos (by omega), rdR out i hil]
      simp only
      rw [if_neg he, wN i (by omega)]

include h0
theorem match_l2 (he : e = 0) (hok : AllOk l0 out) (R : Nat) (hroom : Ev (fun k => transfer_Room.f k l0 l1) (R : Int)) : ∀ (n d s : Nat), d + n = l0.length → s ≤ d → roomCnt l0 out n d s = R →
    Ev (fun k => computuslaw22_TransferMatchesReference.l2 k l0 l1 (mvs out) e (s : Int) (d : Int)) true := by
  intro n
  induction n with
  | zero =>
    intro d s hd hs hc
    refine Ev.step (f := fun k => computuslaw22_TransferMatchesReference.j7 k l0 l1 (mvs out) e (s : Int) (d : Int) false) (fun k => ?_) (Ev.step (fun k => ?_) (Ev.bind (f := fun k t => some (t == (s : Int))) hroom (Ev.congr (fun k => ?_) (Ev.now true))))
    · simp only [computuslaw22_TransferMatchesReference.l2]; rw [if_neg (by omega)]
    · simp [computuslaw22_TransferMatchesReference.j7]
    · simp [← hc, roomCnt]
  | succ n ih =>
    intro d s hd hs hc
    rw [show roomCnt l0 out (n + 1) d s = roomCnt l0 out n (d + 1) (if l0.getD d false = true ∧ ¬ ∃ x ∈ out, x.f2 = (d : Int) then s + 1 else s) from rfl] at hc
    have hct := cntTo_ok hok d
    have hstep : ∀ k, computuslaw22_TransferMatchesReference.l2 (k + 1) l0 l1 (mvs out) e (s : Int) (d : Int) = computuslaw22_TransferMatchesReference.j7 k l0 l1 (mvs out) e (s : Int) (d : Int) true := by
      intro k
      simp only [computuslaw22_TransferMatchesReference.l2]
      rw [if_pos (by omega), he]
      rfl
    by_cases hf : l0.getD d false = true
    · refine Ev.step hstep (Ev.step (f := fun k => computuslaw22_TransferMatchesReference.j8 k l0 l1 (mvs out) e ((s + 1 : Nat) : Int) (d : Int)) (fun k => ?_) (Ev.step (fun k => rfl) (match_l3 l0 l1 out ho e d (by omega) true out.length 0 ((s + 1 : Nat) : Int) (by omega) (by omega) (by omega) ?_ (by omega))))
      · simp only [computuslaw22_TransferMatchesReference.j7]
        rw [if_pos trivial, if_pos (by omega), if_pos (by omega), rdB, if_pos hf, wN s (by omega)]
      · rw [List.drop_zero, hct]
        by_cases hx : ∃ x ∈ out, x.f2 = (d : Int)
        · rw [if_neg (fun h => h.2 hx)] at hc
          rw [if_pos ⟨hf, hx⟩, show ((s + 1 : Nat) : Int) - ((1 : Nat) : Int) = (s : Int) by omega]
          exact ih (d + 1) s (by omega) (by omega) hc
        · rw [if_pos ⟨hf, hx⟩] at hc
          rw [if_neg (fun h => hx h.2), show ((s + 1 : Nat) : Int) - ((0 : Nat) : Int) = ((s + 1 : Nat) : Int) by omega]
          exact ih (d + 1) (s + 1) (by omega) (by omega) hc
    · rw [if_neg (fun h => hf h.1)] at hc
      refine Ev.step hstep (Ev.step (f := fun k => computuslaw22_TransferMatchesReference.j8 k l0 l1 (mvs out) e (s : Int) (d : Int)) (fun k => ?_) (Ev.step (fun k => rfl) (match_l3 l0 l1 out ho e d (by omega) true out.length 0 (s : Int) (by omega) (by omega) (by omega) ?_ (by omega))))
      · simp only [computuslaw22_TransferMatchesReference.j7]
        rw [if_pos trivial, if_pos (by omega), if_pos (by omega), rdB, if_neg hf]
      · rw [List.drop_zero, hct, if_neg (fun h => hf h.1), show (s : Int) - ((0 : Nat) : Int) = (s : Int) by omega]
        exact ih (d + 1) s (by omega) (by omega) hc

omit h0 ho in
theorem match_l2' (he : e ≠ 0) (hroom : Ev (fun k => transfer_Room.f k l0 l1) 0) (d : Int) : Ev (fun k => computuslaw22_TransferMatchesReference.l2 k l0 l1 (mvs out) e 0 d) true := by
  refine Ev.step (f := fun k => computuslaw22_TransferMatchesReference.j7 k l0 l1 (mvs out) e 0 d false) (fun k => ?_) (Ev.step (fun k => ?_) (Ev.bind (f := fun k t => some (t == 0)) hroom (Ev.congr (fun k => by simp) (Ev.now true))))
  · have hb : (e == 0) = false := by simpa using he
    simp only [computuslaw22_TransferMatchesReference.l2, hb]
    split <;> rfl
  · simp [computuslaw22_TransferMatchesReference.j7]

include h1
omit h0 ho in
theorem match_l1 (hl2 : Ev (fun k => computuslaw22_TransferMatchesReference.l2 k l0 l1 (mvs out) e 0 ((fromDay 0 l1 0 : Nat) : Int)) true) : ∀ (n i acc : Nat), i + n = l1.length → acc ≤ i → fromDay i (l1.drop i) acc = fromDay 0 l1 0 →
    Ev (fun k => computuslaw22_TransferMatchesReference.l1 k l0 l1 (mvs out) e ((acc : Int) - 1) (i : Int)) true := by
  intro n
  induction n with
  | zero =>
    intro i acc hi ha hf
    rw [List.drop_of_length_le (by omega)] at hf
    refine Ev.step (fun k => ?_) hl2
    simp only [computuslaw22_TransferMatchesReference.l1]
    rw [if_neg (by omega), ← hf, show wrap64 ((acc : Int) - 1 + 1) = (acc : Int) by unfold wrap64; omega]
    rfl
  | succ n ih =>
    intro i acc hi ha hf
    have hil : i < l1.length := by omega
    rw [List.drop_eq_getElem_cons hil, show fromDay i (l1[i] :: l1.drop (i + 1)) acc = fromDay (i + 1) (l1.drop (i + 1)) (if l1[i].length > 0 then i + 1 else acc) from rfl] at hf
    by_cases h : l1[i].length > 0
    · rw [if_pos h] at hf
      have h2 := ih (i + 1) (i + 1) (by omega) (by omega) hf
      rw [show ((i + 1 : Nat) : Int) - 1 = (i : Int) by omega] at h2
      refine Ev.step (fun k => ?_) h2
      simp only [computuslaw22_TransferMatchesReference.l1]
      rw [if_pos (by omega), if_pos (by omega), rdI l1 i hil, if_pos (by omega), wN i (by omega)]
    · rw [if_neg h] at hf
      refine Ev.step (fun k => ?_) (ih (i + 1) acc (by omega) (by omega) hf)
      simp only [computuslaw22_TransferMatchesReference.l1]
      rw [if_pos (by omega), if_pos (by omega), rdI l1 i hil, if_neg (by omega), wN i (by omega)]
omit h1
omit h0 in
theorem match_l0 (day : Int) (hj4 : Ev (fun k => computuslaw22_TransferMatchesReference.j4 k l0 l1 (mvs out) e false) true) : ∀ (n i : Nat), i + n = out.length →
    Ev (fun k => computuslaw22_TransferMatchesReference.l0 k l0 l1 day (mvs out) e (takenV (out.drop i) day).2.2.2 false (i : Int) (takenV (out.drop i) day).1 (takenV (out.drop i) day).2.1 (takenV (out.drop i) day).2.2.1) true := by
  intro n
  induction n with
  | zero =>
    intro i hi
    rw [List.drop_of_length_le (by omega)]
    refine Ev.step (f := fun k => computuslaw22_TransferMatchesReference.j3 k l0 l1 day (mvs out) e false false (i : Int) false 0 0 0) (fun k => ?_) (Ev.step (fun k => ?_) hj4)
    · simp only [computuslaw22_TransferMatchesReference.l0, takenV]
      rw [if_neg (by rw [mvs_len]; omega)]
    · simp [computuslaw22_TransferMatchesReference.j3]
  | succ n ih =>
    intro i hi
    have hil : i < out.length := by omega
    rw [List.drop_eq_getElem_cons hil]
    unfold takenV
    by_cases hd : out[i].f2 = day
    · rw [if_pos hd]
      simp only
      have hnext : Ev (fun k => computuslaw22_TransferMatchesReference.l0 k l0 l1 day (mvs out) e true true ((i + 1 : Nat) : Int) out[i].f0 out[i].f1 out[i].f2) true := by
        refine Ev.step (f := fun k => computuslaw22_TransferMatchesReference.j3 k l0 l1 day (mvs out) e true true ((i + 1 : Nat) : Int) false out[i].f0 out[i].f1 out[i].f2) (fun k => ?_) (Ev.step (fun k => ?_) hj4)
        · simp only [computuslaw22_TransferMatchesReference.l0]
          split <;> rfl
        · simp [computuslaw22_TransferMatchesReference.j3]
      refine Ev.step (f := fun k => computuslaw22_TransferMatchesReference.j3 k l0 l1 day (mvs out) e true false (i : Int) true out[i].f0 out[i].f1 out[i].f2) (fun k => ?_) (Ev.step (fun k => ?_) hnext)
      · simp only [computuslaw22_TransferMatchesReference.l0]
        rw [if_pos (by rw [mvs_len]; omega)]
        rfl
      · simp only [computuslaw22_TransferMatchesReference.j3]
        rw [if_pos trivial, if_pos (by omega), if_pos (by rw [mvs_len]; omega), rdR out i hil]
        simp only
        rw [if_pos hd, if_pos trivial, if_neg (by simp), wN i (by omega)]
    · rw [if_neg hd]
      refine Ev.step (f := fun k => computuslaw22_TransferMatchesReference.j3 k l0 l1 day (mvs out) e (takenV (out.drop (i + 1)) day).2.2.2 false (i : Int) true (takenV (out.drop (i + 1)) day).1 (takenV (out.drop (i + 1)) day).2.1 (takenV (out.drop (i + 1)) day).2.2.1) (fun k => ?_) (Ev.step (fun k => ?_) (ih (i + 1) (by omega)))
      · simp only [computuslaw22_TransferMatchesReference.l0]
        rw [if_pos (by rw [mvs_len]; omega)]
        rfl
      · simp only [computuslaw22_TransferMatchesReference.j3]
        rw [if_pos trivial, if_pos (by omega), if_pos (by rw [mvs_len]; omega), rdR out i hil]
        simp only
        rw [if_neg hd, wN i (by omega)]
end
end Go.Proofs.Ytjjgkgedadjodaa.Q
namespace Go.Proofs.Ytjjgkgedadjodaa.Pure
open Go.RowKit Go.Proofs.YtjjgkgedadjodaaW.PrintWords Go.Proofs.YtjjgkgedadjodaaW.PrintLast Go.Proofs.Ytjjgkgedadjodaa.Q
theorem TransferMatchesReference : Q.computuslaw22_TransferMatchesReference.Pure := by
  intro l0 l1 day _ _ _ _
  refine law_start l0 l1 (G := fun k b => computuslaw22_TransferMatchesReference.j0 k l0 l1 day b) _ (fun k => rfl) (fun k => rfl) fun h0 h1 h2 => ?_
  obtain ⟨out, e, ha, hra, ho, hne, hz⟩ := ref_assign l0 l1 h0 h1 h2
  have hroom := room_ev l0 l1 h0 ha ho (fun h => (hz h).1)
  have hl2 : Ev (fun k => computuslaw22_TransferMatchesReference.l2 k l0 l1 (mvs out) e 0 ((fromDay 0 l1 0 : Nat) : Int)) true := by
    by_cases he : e = 0
    · obtain ⟨heq, hd⟩ := hz he
      obtain ⟨hok, _⟩ := days_ok l0 l1 0 [] [] out (by omega) (by simp) (fun i h => absurd h (by simp)) hd
      rw [if_pos he] at hroom
      have hle := fromDay_le l1 0 0 (Nat.le_refl _)
      exact match_l2 l0 h0 l1 out ho e he hok _ hroom (l0.length - fromDay 0 l1 0) (fromDay 0 l1 0) 0 (by omega) (by omega) rfl
    · rw [if_neg he] at hroom
      exact match_l2' l0 l1 out e he hroom _
  have hl1 := match_l1 l0 l1 h1 out e hl2 l1.length 0 0 (by omega) (by omega) rfl
  have hj4 : Ev (fun k => computuslaw22_TransferMatchesReference.j4 k l0 l1 (mvs out) e false) true := Ev.step (fun k => by simp [computuslaw22_TransferMatchesReference.j4]) hl1
  have hl0 := match_l0 l0 l1 out ho e day hj4 out.length 0 (by omega)
  rw [List.drop_zero] at hl0
  have hj1 : Ev (fun k => computuslaw22_TransferMatchesReference.j1 k l0 l1 day out (mvs out) e false) true :=
    Ev.step (fun k => by simp only [computuslaw22_TransferMatchesReference.j1]; rw [if_neg (by simp)]) (Ev.bind (f := fun k bt236 => computuslaw22_TransferMatchesReference.l0 k l0 l1 day (mvs out) e bt236.2.2.2 false 0 bt236.1 bt236.2.1 bt236.2.2.1) (taken_ev out (by omega) day) hl0)
  refine Ev.step (f := fun k => (computusref22_Assign.f k l0 l1).bind fun bt228 => ((computuslaw22_moves.f k out).bind fun t232 => ((computusref22_Same.f k t232 bt228.1).bind fun t235 => (if t235 = true then (computuslaw22_TransferMatchesReference.j1 k l0 l1 day out bt228.1 bt228.2 (e != bt228.2)) else (computuslaw22_TransferMatchesReference.j1 k l0 l1 day out bt228.1 bt228.2 true))))) (fun k => ?_) (Ev.bind hra (Ev.bind (moves_ev out (by omega)) (Ev.bind (same_ev (mvs out) (by rw [mvs_len]; omega)) (Ev.congr (fun k => ?_) hj1))))
  · simp only [computuslaw22_TransferMatchesReference.j0, ha, Option.bind_some]
    rw [if_neg (by simp)]
  · simp
end Go.Proofs.Ytjjgkgedadjodaa.Pure
