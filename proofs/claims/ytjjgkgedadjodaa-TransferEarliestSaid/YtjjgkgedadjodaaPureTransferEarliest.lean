/- What is proved: the plain statement of TransferEarliest: each move is to the first later day that is free and not taken before. -/
import Derived.Test.YtjjgkgedadjodaaQx12
import Derived.Test.YtjjgkgedadjodaaPT2
namespace Go.Proofs.Ytjjgkgedadjodaa.Q
open Go.RowKit Go.Proofs.YtjjgkgedadjodaaW.PrintWords Go.Proofs.YtjjgkgedadjodaaW.PrintLast
set_option linter.unusedVariables false
set_option linter.unusedSimpArgs false

theorem earliest_l1 (l0 : List Bool) (h0 : l0.length ≤ 400) (out : List S36) (ho : out.length ≤ 400) (i : Nat) (hi : i < out.length) (hok : MoveOk l0 (out.take i) out[i])
    (hrest : Ev (fun k => computuslaw22_TransferEarliest.l0 k l0 out ((i + 1 : Nat) : Int)) true) :
    ∀ (n d : Nat), (d : Int) + n = out[i].f2 → out[i].f1 < d → Ev (fun k => computuslaw22_TransferEarliest.l1 k l0 out (i : Int) (d : Int) out[i].f0 out[i].f1 out[i].f2) true := by
  obtain ⟨m0, m1, m2, m3, m4, m5⟩ := hok
  intro n
  induction n with
  | zero =>
    intro d hd hlt
    have hb := before_ev out i (by omega) (by omega) out[i].f2
    rw [decide_eq_false (by rintro ⟨x, h1, h2⟩; exact m4 x h1 h2)] at hb
    refine Ev.step (fun k => ?_) (Ev.bind (f := fun k b => if b = true then none else computuslaw22_TransferEarliest.l0 k l0 out ((i + 1 : Nat) : Int)) hb (Ev.congr (fun k => ?_) hrest))
    · simp only [computuslaw22_TransferEarliest.l1]
      rw [if_neg (by omega), wN i (by omega)]
    · simp
  | succ n ih =>
    intro d hd hlt
    have hdl : d < l0.length := by omega
    by_cases hf : l0.getD d false = true
    · have hb := before_ev out i (by omega) (by omega) (d : Int)
      rw [decide_eq_true (m5 (d : Int) (by omega) (by omega) (by simpa using hf))] at hb
      refine Ev.step (fun k => ?_) (Ev.bind (f := fun k b => if b = true then computuslaw22_TransferEarliest.l1 k l0 out (i : Int) ((d + 1 : Nat) : Int) out[i].f0 out[i].f1 out[i].f2 else none) hb (Ev.congr (fun k => ?_) (ih (d + 1) (by omega) (by omega))))
      · simp only [computuslaw22_TransferEarliest.l1]
        rw [if_pos (by omega), if_pos (by omega), if_pos (by omega), rdB, if_pos hf, wN d (by omega)]
      · simp
    · refine Ev.step (fun k => ?_) (ih (d + 1) (by omega) (by omega))
      simp only [computuslaw22_TransferEarliest.l1]
      rw [if_pos (by omega), if_pos (by omega), if_pos (by omega), rdB, if_neg hf, wN d (by omega)]

theorem earliest_l0 (l0 : List Bool) (h0 : l0.length ≤ 400) (out : List S36) (ho : out.length ≤ 400) (hok : AllOk l0 out) :
    ∀ (n i : Nat), i + n = out.length → Ev (fun k => computuslaw22_TransferEarliest.l0 k l0 out (i : Int)) true := by
  intro n
  induction n with
  | zero => intro i hi; refine Ev.ret fun k => ?_; simp only [computuslaw22_TransferEarliest.l0]; rw [if_neg (by omega)]
  | succ n ih =>
    intro i hi
    have hil : i < out.length := by omega
    have hm := hok i hil
    obtain ⟨m0, m1, m2, m3, m4, m5⟩ := hm
    obtain ⟨f, hf⟩ := Int.eq_ofNat_of_zero_le m0
    have hl1 := earliest_l1 l0 h0 out ho i hil (hok i hil) (ih (i + 1) (by omega)) (out[i].f2.toNat - (f + 1)) (f + 1) (by omega) (by omega)
    refine Ev.step (f := fun k => computuslaw22_TransferEarliest.j2 k l0 out (i : Int) false out[i].f0 out[i].f1 out[i].f2) (fun k => ?_) (Ev.step (fun k => ?_) hl1)
    · simp only [computuslaw22_TransferEarliest.l0]
      rw [if_pos (by omega), if_pos (by omega), rdM out i hil, if_neg (by omega), if_neg (by omega), if_neg (by omega), if_pos (by omega), if_pos (by omega)]
      have : rdOf false l0 out[i].f2 = true := by simpa [rdOf] using m3
      rw [this]
      rfl
    · simp only [computuslaw22_TransferEarliest.j2]
      rw [if_neg (by simp), hf]
      rw [show wrap64 ((f : Int) + 1) = ((f + 1 : Nat) : Int) from wN f (by omega)]
end Go.Proofs.Ytjjgkgedadjodaa.Q
namespace Go.Proofs.Ytjjgkgedadjodaa.Pure
open Go.RowKit Go.Proofs.YtjjgkgedadjodaaW.PrintWords Go.Proofs.YtjjgkgedadjodaaW.PrintLast Go.Proofs.Ytjjgkgedadjodaa.Q
theorem TransferEarliest : Q.computuslaw22_TransferEarliest.Pure := by
  intro l0 l1 _ _ _
  refine law_start l0 l1 (G := fun k b => computuslaw22_TransferEarliest.j0 k l0 l1 b) _ (fun k => rfl) (fun k => rfl) fun h0 h1 h2 => ?_
  obtain ⟨out, e, ha, _, ho, hne, hz⟩ := ref_assign l0 l1 h0 h1 h2
  by_cases he : e = 0
  · obtain ⟨heq, hd⟩ := hz he
    obtain ⟨hok, _⟩ := days_ok l0 l1 0 [] [] out (by omega) (by simp) (fun i h => absurd h (by simp)) hd
    refine Ev.step (fun k => ?_) (earliest_l0 l0 h0 out ho hok out.length 0 (by omega))
    simp only [computuslaw22_TransferEarliest.j0, ha, Option.bind_some]
    rw [if_neg (by simp), if_pos he]
    rfl
  · refine Ev.ret fun k => ?_
    simp only [computuslaw22_TransferEarliest.j0, ha, Option.bind_some]
    rw [if_neg (by simp), if_neg he, hne he]
    rfl
end Go.Proofs.Ytjjgkgedadjodaa.Pure
