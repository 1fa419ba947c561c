/- What is proved: the plain statement of TransferOrder: the moves are those of the impeded feasts, in their order. -/
import Derived.Test.YtjjgkgedadjodaaQx13
import Derived.Test.YtjjgkgedadjodaaPT2
namespace Go.Proofs.Ytjjgkgedadjodaa.Q
open Go.RowKit Go.Proofs.YtjjgkgedadjodaaW.PrintWords Go.Proofs.YtjjgkgedadjodaaW.PrintLast
set_option linter.unusedVariables false
set_option linter.unusedSimpArgs false

def pairs (i : Nat) (l : List (List Int)) : List (Int × Int) := (l.zipIdx i).flatMap fun p => p.1.map fun f => ((p.2 : Int), f)
def mpairs (out : List S36) : List (Int × Int) := out.map fun m => (m.f1, m.f0)

theorem order_l1 (l1 : List (List Int)) (h1 : l1.length ≤ 400) (out : List S36) (ho : out.length ≤ 400) (i : Nat) (hi : i < l1.length) (hm : l1[i].length ≤ 400)
    (hrest : ∀ p, p ≤ out.length → mpairs (out.drop p) = pairs (i + 1) (l1.drop (i + 1)) → Ev (fun k => computuslaw22_TransferOrder.l0 k l1 out (p : Int) ((i + 1 : Nat) : Int)) true) :
    ∀ (n j p : Nat), j + n = l1[i].length → p ≤ out.length → mpairs (out.drop p) = (l1[i].drop j).map (fun f => ((i : Int), f)) ++ pairs (i + 1) (l1.drop (i + 1)) →
      Ev (fun k => computuslaw22_TransferOrder.l1 k l1 out (p : Int) (i : Int) (j : Int)) true := by
  intro n
  induction n with
  | zero =>
    intro j p hj hp he
    rw [List.drop_of_length_le (show l1[i].length ≤ j by omega)] at he
    refine Ev.step (fun k => ?_) (hrest p hp (by simpa using he))
    simp only [computuslaw22_TransferOrder.l1]
    rw [if_pos (by omega), if_pos (by omega), rdI l1 i hi, if_neg (by omega), wN i (by omega)]
  | succ n ih =>
    intro j p hj hp he
    rw [List.drop_eq_getElem_cons (show j < l1[i].length by omega)] at he
    have hpl : p < out.length := by
      rcases Nat.lt_or_ge p out.length with h | h
      · exact h
      · rw [List.drop_of_length_le h] at he; simp [mpairs] at he; omega
    rw [List.drop_eq_getElem_cons hpl] at he
    simp only [mpairs, List.map_cons, List.cons_append, List.cons.injEq, Prod.mk.injEq] at he
    obtain ⟨⟨e1, e2⟩, e3⟩ := he
    refine Ev.step (fun k => ?_) (ih (j + 1) (p + 1) (by omega) (by omega) e3)
    have hr : rd l1[i] (j : Int) = l1[i][j] := by simp [rd, List.getD, show j < l1[i].length by omega]
    simp only [computuslaw22_TransferOrder.l1]
    rw [if_pos (by omega), if_pos (by omega), rdI l1 i hi, if_pos (by omega), if_neg (by omega), if_pos (by omega), if_pos (by omega), rdM out p hpl, if_pos e1, if_pos (by omega), hr, if_pos e2, wN p (by omega), wN j (by omega)]

theorem order_l0 (l1 : List (List Int)) (h1 : l1.length ≤ 400) (hf : l1.flatten.length ≤ 400) (out : List S36) (ho : out.length ≤ 400) :
    ∀ (n i p : Nat), i + n = l1.length → p ≤ out.length → mpairs (out.drop p) = pairs i (l1.drop i) → Ev (fun k => computuslaw22_TransferOrder.l0 k l1 out (p : Int) (i : Int)) true := by
  intro n
  induction n with
  | zero =>
    intro i p hi hp he
    have hz : l1.drop i = [] := List.drop_of_length_le (by omega)
    rw [hz] at he
    refine Ev.ret fun k => ?_
    simp only [computuslaw22_TransferOrder.l0]
    rw [if_neg (by omega)]
    have : (mpairs (out.drop p)).length = 0 := by rw [he]; rfl
    simp only [mpairs, List.length_map, List.length_drop] at this
    simp
    omega
  | succ n ih =>
    intro i p hi hp he
    have hil : i < l1.length := by omega
    have hm : l1[i].length ≤ 400 := by
      have : l1[i].length ≤ l1.flatten.length := (List.sublist_flatten_of_mem (List.getElem_mem hil)).length_le
      omega
    refine Ev.step (fun k => ?_) (order_l1 l1 h1 out ho i hil hm (fun p hp he => ih (i + 1) p (by omega) hp he) l1[i].length 0 p (by omega) hp ?_)
    · simp only [computuslaw22_TransferOrder.l0]
      rw [if_pos (by omega)]
      rfl
    · have hc : l1.drop i = l1[i] :: l1.drop (i + 1) := List.drop_eq_getElem_cons hil
      rw [he, hc, List.drop_zero]
      simp only [pairs, List.zipIdx_cons, List.flatMap_cons]
end Go.Proofs.Ytjjgkgedadjodaa.Q
namespace Go.Proofs.Ytjjgkgedadjodaa.Pure
open Go.RowKit Go.Proofs.YtjjgkgedadjodaaW.PrintWords Go.Proofs.YtjjgkgedadjodaaW.PrintLast Go.Proofs.Ytjjgkgedadjodaa.Q
theorem TransferOrder : Q.computuslaw22_TransferOrder.Pure := by
  intro l0 l1 _ _ _
  refine law_start l0 l1 (G := fun k b => computuslaw22_TransferOrder.j0 k l0 l1 b) _ (fun k => rfl) (fun k => rfl) fun h0 h1 h2 => ?_
  obtain ⟨out, e, ha, _, ho, hne, hz⟩ := ref_assign l0 l1 h0 h1 h2
  by_cases he : e = 0
  · obtain ⟨heq, hd⟩ := hz he
    obtain ⟨_, hp⟩ := days_ok l0 l1 0 [] [] out (by omega) (by simp) (fun i h => absurd h (by simp)) hd
    refine Ev.step (fun k => ?_) (order_l0 l1 h1 h2 out ho l1.length 0 0 (by omega) (by omega) (by simpa [mpairs, pairs] using hp))
    simp only [computuslaw22_TransferOrder.j0, ha, Option.bind_some]
    rw [if_neg (by simp), if_pos he]
    rfl
  · refine Ev.ret fun k => ?_
    simp only [computuslaw22_TransferOrder.j0, ha, Option.bind_some]
    rw [if_neg (by simp), if_neg he, hne he]
    rfl
end Go.Proofs.Ytjjgkgedadjodaa.Pure
