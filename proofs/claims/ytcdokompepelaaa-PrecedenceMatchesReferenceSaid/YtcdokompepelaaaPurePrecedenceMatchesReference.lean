/- What is proved: the plain statement of PrecedenceMatchesReference: the program's order, sort and first are the reference's. -/
import Derived.Test.YtcdokompepelaaaQx11
import Derived.Test.YtcdokompepelaaaPP
namespace Go.Proofs.Ytcdokompepelaaa.Q
open Go.RowKit Go.Proofs.YtcdokompepelaaaW.PrintWords Go.Proofs.YtcdokompepelaaaW.PrintLast Go.Proofs.Ytcdokompepelaaa.Srt
set_option linter.unusedVariables false
set_option linter.unusedSimpArgs false

theorem awake_ev2 : Ev (fun k => computuslaw20_awake.f k) true := Ev.of computuslaw20_awake.mono (k := 30) (by kernel_rfl)
theorem match_j1 (l : List Rf) (hl : l.length ≤ 60) (a b : Rf) (ok : Bool) (hok : ok = decide ((l.length : Int) > 0)) (x : Cd) :
    Ev (fun k => computuslaw20_PrecedenceMatchesReference.j1 k l (l.map fw) (isort lessR l) ok a.f0 a.f1 a.f2 a.f3 b.f0 b.f1 b.f2 b.f3 x.f0 x.f1 x.f2 x.f3 x.f0 x.f1 x.f2 x.f3) true := by
  have hi : (isort lessB (l.map fw)).length ≤ 1000 := by rw [length_isort, List.length_map]; omega
  have hs : precedence_Sort.f (l.map fw) = some (isort lessB (l.map fw)) := by
    unfold precedence_Sort.f
    rw [if_pos (by rw [List.length_map]; omega)]
  have hb : (isort lessB (l.map fw)).map bk = isort lessR l := by rw [← isort_map, map_fw]
  refine Ev.step (f := fun k => (computuslaw20_forward.f k [a, b]).bind fun t208 => (if 0 < (t208.length : Int) then (if 1 < (t208.length : Int) then ((precedence_Precedes.f ((rd_T29 t208 0).f0) ((rd_T29 t208 0).f1) ((rd_T29 t208 0).f2) ((rd_T29 t208 0).f3) ((rd_T29 t208 1).f0) ((rd_T29 t208 1).f1) ((rd_T29 t208 1).f2) ((rd_T29 t208 1).f3)).bind fun t213 => ((computusref20_Precedes.f a.f0 a.f1 a.f2 a.f3 b.f0 b.f1 b.f2 b.f3).bind fun t214 => (if (t213 == t214) = true then ((precedence_Sort.f (l.map fw)).bind fun t215 => ((computuslaw20_back.f k t215).bind fun t218 => ((computusref19_Same.f k t218 (isort lessR l)).bind fun t221 => (if t221 = true then (if (ok == (decide ((l.length : Int) > 0))) = true then (if (x.f0 == x.f0 && (x.f1 == x.f1 && (x.f2 == x.f2 && (x.f3.toList == x.f3.toList)))) = true then ((computuslaw20_back.f k (l.map fw)).bind fun t222 => ((computusref19_Same.f k t222 l).bind fun t225 => (some t225))) else (none)) else (none)) else (none))))) else (none)))) else (none)) else (none))) (fun k => ?_) ?_
  · simp only [computuslaw20_PrecedenceMatchesReference.j1]
  · refine Ev.bind (fwd_f [a, b] (by simp)) ?_
    refine Ev.congr (f := fun k => (precedence_Precedes.f (fw a).f0 (fw a).f1 (fw a).f2 (fw a).f3 (fw b).f0 (fw b).f1 (fw b).f2 (fw b).f3).bind fun t213 => ((computusref20_Precedes.f a.f0 a.f1 a.f2 a.f3 b.f0 b.f1 b.f2 b.f3).bind fun t214 => (if (t213 == t214) = true then ((precedence_Sort.f (l.map fw)).bind fun t215 => ((computuslaw20_back.f k t215).bind fun t218 => ((computusref19_Same.f k t218 (isort lessR l)).bind fun t221 => (if t221 = true then (if (ok == (decide ((l.length : Int) > 0))) = true then (if (x.f0 == x.f0 && (x.f1 == x.f1 && (x.f2 == x.f2 && (x.f3.toList == x.f3.toList)))) = true then ((computuslaw20_back.f k (l.map fw)).bind fun t222 => ((computusref19_Same.f k t222 l).bind fun t225 => (some t225))) else (none)) else (none)) else (none))))) else (none)))) (fun k => ?_) ?_
    · rfl
    · simp only [less_f, refless_f, Option.bind_some, lessR, beq_self_eq_true, if_true, hs, hok, Bool.and_self]
      refine Ev.bind (back_f _ hi) ?_
      rw [hb]
      refine Ev.bind (same_f _ (by rw [length_isort]; omega)) ?_
      simp only [if_true]
      refine Ev.bind (back_f _ (by rw [List.length_map]; omega)) ?_
      rw [map_fw]
      exact Ev.bind (same_f l (by omega)) (Ev.now true)
theorem Pure.PrecedenceMatchesReference : computuslaw20_PrecedenceMatchesReference.Pure := by
  intro l a0 a1 a2 a3 b0 b1 b2 b3 hl hw _ _ _ _ _ _ _ _
  refine Ev.rounds (g := fun k => computuslaw20_PrecedenceMatchesReference.f k l a0 a1 a2 a3 b0 b1 b2 b3) ?_
  simp only [computuslaw20_PrecedenceMatchesReference.f]
  refine Ev.bind awake_ev2 ?_
  simp only [if_true]
  by_cases h60 : (l.length : Int) > 60
  · rw [decide_eq_true h60]
    refine Ev.step (f := fun k => (computuslaw20_awake.f k).bind fun t187 => some t187) (fun k => ?_) (Ev.bind awake_ev2 (Ev.now true))
    simp only [computuslaw20_PrecedenceMatchesReference.j0]
    rw [if_pos trivial]
  · rw [decide_eq_false h60]
    have hl6 : l.length ≤ 60 := by omega
    refine Ev.step (f := fun k => (computuslaw20_forward.f k l).bind fun t188 => ((computusref20_Sort.f k l).bind fun t191 => ((precedence_First.f k t188).bind fun bt194 => (if (t191.length : Int) > 0 then ((computuslaw20_forward.f k t191).bind fun t201 => (if 0 < (t201.length : Int) then (computuslaw20_PrecedenceMatchesReference.j1 k l t188 t191 bt194.2.2.2.2 a0 a1 a2 a3 b0 b1 b2 b3 bt194.1 bt194.2.1 bt194.2.2.1 bt194.2.2.2.1 ((rd_T29 t201 0).f0) ((rd_T29 t201 0).f1) ((rd_T29 t201 0).f2) ((rd_T29 t201 0).f3)) else (none))) else (computuslaw20_PrecedenceMatchesReference.j1 k l t188 t191 bt194.2.2.2.2 a0 a1 a2 a3 b0 b1 b2 b3 bt194.1 bt194.2.1 bt194.2.2.1 bt194.2.2.2.1 0 0 0 (⟨#[]⟩ : ByteArray)))))) (fun k => ?_) ?_
    · simp only [computuslaw20_PrecedenceMatchesReference.j0]
      rw [if_neg (by simp)]
    · refine Ev.bind (fwd_f l (by omega)) ?_
      refine Ev.bind (rsort_f l (by omega)) ?_
      have hlen : (isort lessR l).length = l.length := length_isort _ l
      by_cases h0 : l = []
      · subst h0
        refine Ev.congr (fun k => ?_) (match_j1 [] (by simp) ⟨a0, a1, a2, a3⟩ ⟨b0, b1, b2, b3⟩ false (by simp) ⟨0, 0, 0, ⟨#[]⟩⟩)
        rfl
      · have hpos : 0 < l.length := List.length_pos_iff.2 h0
        refine Ev.bind (first_f (l.map fw) (by rw [List.length_map]; omega) (by simpa using h0)) ?_
        refine Ev.congr (fun k => if_pos (by rw [hlen]; omega)) ?_
        refine Ev.bind (fwd_f (isort lessR l) (by rw [hlen]; omega)) ?_
        rw [isort_map]
        refine Ev.congr (fun k => if_pos (by rw [length_isort, List.length_map]; omega)) ?_
        have hx : rd_T29 (isort lessB (l.map fw)) 0 = (isort lessB (l.map fw)).headD z29 := by
          cases isort lessB (l.map fw) <;> rfl
        rw [hx]
        exact match_j1 l hl6 ⟨a0, a1, a2, a3⟩ ⟨b0, b1, b2, b3⟩ true (by rw [decide_eq_true]; omega) _
end Go.Proofs.Ytcdokompepelaaa.Q
