/- What is proved: the plain statement of TransferKeeps: copies of the arguments that were handed over equal the arguments afterwards. -/
import Derived.Test.YtjjgkgedadjodaaQx15
import Derived.Test.YtjjgkgedadjodaaPT2
namespace Go.Proofs.Ytjjgkgedadjodaa.Q
open Go.RowKit Go.Proofs.YtjjgkgedadjodaaW.PrintWords Go.Proofs.YtjjgkgedadjodaaW.PrintLast
set_option linter.unusedVariables false
set_option linter.unusedSimpArgs false

theorem keeps_l3 (l1 : List (List Int)) (h1 : l1.length ≤ 400) (i : Nat) (hi : i < l1.length) (hm : l1[i].length ≤ 400) (hrest : Ev (fun k => computuslaw22_TransferKeeps.l2 k l1 l1 ((i + 1 : Nat) : Int)) true) :
    ∀ (n j : Nat), j + n = l1[i].length → Ev (fun k => computuslaw22_TransferKeeps.l3 k l1 l1 (i : Int) (j : Int)) true := by
  intro n
  induction n with
  | zero =>
    intro j hj
    refine Ev.step (fun k => ?_) hrest
    simp only [computuslaw22_TransferKeeps.l3]
    rw [if_pos (by omega), if_pos (by omega), rdI l1 i hi, if_neg (by omega), wN i (by omega)]
  | succ n ih =>
    intro j hj
    refine Ev.step (fun k => ?_) (ih (j + 1) (by omega))
    simp only [computuslaw22_TransferKeeps.l3]
    rw [if_pos (by omega), if_pos (by omega), rdI l1 i hi, if_pos (by omega), if_pos (by omega), if_pos (by omega), if_pos (by omega), if_pos trivial, wN j (by omega)]

theorem keeps_l2 (l1 : List (List Int)) (h1 : l1.length ≤ 400) (hf : l1.flatten.length ≤ 400) : ∀ (n i : Nat), i + n = l1.length → Ev (fun k => computuslaw22_TransferKeeps.l2 k l1 l1 (i : Int)) true := by
  intro n
  induction n with
  | zero => intro i hi; refine Ev.ret fun k => ?_; simp only [computuslaw22_TransferKeeps.l2]; rw [if_neg (by omega)]
  | succ n ih =>
    intro i hi
    have hil : i < l1.length := by omega
    have hm : l1[i].length ≤ 400 := by
      have : l1[i].length ≤ l1.flatten.length := (List.sublist_flatten_of_mem (List.getElem_mem hil)).length_le
      omega
    refine Ev.step (fun k => ?_) (keeps_l3 l1 h1 i hil hm (ih (i + 1) (by omega)) l1[i].length 0 (by omega))
    simp only [computuslaw22_TransferKeeps.l2]
    rw [if_pos (by omega), if_pos (by omega), if_pos (by omega), if_pos (by simp)]
    rfl

theorem keeps_l1 (l0 : List Bool) (h0 : l0.length ≤ 400) (l1 : List (List Int)) (hrest : Ev (fun k => computuslaw22_TransferKeeps.l2 k l1 l1 0) true) : ∀ (n i : Nat), i + n = l0.length → Ev (fun k => computuslaw22_TransferKeeps.l1 k l0 l1 l0 l1 (i : Int)) true := by
  intro n
  induction n with
  | zero => intro i hi; refine Ev.step (fun k => ?_) hrest; simp only [computuslaw22_TransferKeeps.l1]; rw [if_neg (by omega)]
  | succ n ih =>
    intro i hi
    refine Ev.step (fun k => ?_) (ih (i + 1) (by omega))
    simp only [computuslaw22_TransferKeeps.l1]
    rw [if_pos (by omega), if_pos (by omega), if_pos (by omega), if_neg (by simp), wN i (by omega)]

theorem keeps_l0 (l0 : List Bool) (h0 : l0.length ≤ 400) (l1 : List (List Int)) (h1 : l1.length ≤ 400) (h2 : l1.flatten.length ≤ 400) : ∀ (n i : Nat), i + n = l1.length → Ev (fun k => computuslaw22_TransferKeeps.l0 k l0 l1 l0 (l1.take i) (i : Int)) true := by
  intro n
  induction n with
  | zero =>
    intro i hi
    obtain ⟨out, e, ha, _, ho, hne, hz⟩ := ref_assign l0 l1 h0 h1 h2
    have hr := room_ev l0 l1 h0 ha ho (fun h => (hz h).1)
    have hk := keeps_l1 l0 h0 l1 (keeps_l2 l1 h1 h2 l1.length 0 (by omega)) l0.length 0 (by omega)
    refine Ev.step (fun k => ?_) (Ev.bind (f := fun k _ => computuslaw22_TransferKeeps.l1 k l0 l1 l0 l1 0) hr hk)
    simp only [computuslaw22_TransferKeeps.l0]
    rw [if_neg (by omega), List.take_of_length_le (by omega), ha]
    rfl
  | succ n ih =>
    intro i hi
    have hil : i < l1.length := by omega
    have hm : l1[i].length ≤ 400 := by
      have : l1[i].length ≤ l1.flatten.length := (List.sublist_flatten_of_mem (List.getElem_mem hil)).length_le
      omega
    refine Ev.step (fun k => ?_) (ih (i + 1) (by omega))
    simp only [computuslaw22_TransferKeeps.l0, Option.bind_some, List.nil_append, List.length_nil]
    rw [if_pos (by omega), if_pos (by omega), rdI l1 i hil, if_pos (by omega), if_pos (by rw [List.length_take]; omega), List.take_succ_eq_append_getElem hil, wN i (by omega)]
end Go.Proofs.Ytjjgkgedadjodaa.Q
namespace Go.Proofs.Ytjjgkgedadjodaa.Pure
open Go.RowKit Go.Proofs.YtjjgkgedadjodaaW.PrintWords Go.Proofs.YtjjgkgedadjodaaW.PrintLast Go.Proofs.Ytjjgkgedadjodaa.Q
theorem TransferKeeps : Q.computuslaw22_TransferKeeps.Pure := by
  intro l0 l1 _ _ _
  refine law_start l0 l1 (G := fun k b => computuslaw22_TransferKeeps.j0 k l0 l1 b) _ (fun k => rfl) (fun k => rfl) fun h0 h1 h2 => ?_
  refine Ev.step (fun k => ?_) (keeps_l0 l0 h0 l1 h1 h2 l1.length 0 (by omega))
  simp only [computuslaw22_TransferKeeps.j0, Option.bind_some, List.nil_append, List.length_nil]
  rw [if_neg (by simp), if_pos (by omega)]
  rfl
end Go.Proofs.Ytjjgkgedadjodaa.Pure
