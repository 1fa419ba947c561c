/- What is proved: the laws of a map[int]bool that the call itself has made and in which it stores true alone: what a look-up tells, what a store leaves. -/
import Derived.Maps.OwnOps
import Derived.Maps.Views
import Derived.Test.YtjjgkgedadjodaaWWords
set_option linter.unusedVariables false
set_option linter.unusedSimpArgs false
namespace Go.Proofs.Ytjjgkgedadjodaa.Q
open Go.Maps Go.Proofs.YtjjgkgedadjodaaW.PrintWords

/-- Block b of w is a map[int]bool; the keys that hold true are those of S. -/
def SetB (P : Program) (k e : TypeId) (w : World) (b : Nat) (S : List Int) : Prop :=
  ∃ (n : Nat) (D : DataW Unit), n ≤ S.length ∧ w.ownsMap P k (plainElem P e) b n D ∧ IsMap D ∧ ∀ x : Int, D.atKey (.int .i64 x) (.lit (.bool false)) = .lit (.bool (decide (x ∈ S)))

section
variable {P : Program} {k e t : TypeId} {w w1 : World} {b : Nat} {S : List Int}

theorem SetB.made (w : World) (P : Program) (k e : TypeId) : SetB P k e (w.alloc (.map #[] 0)) w.heap.size [] :=
  ⟨0, _, Nat.le_refl _, World.ownsMap_made w P k _, isMap_empty, fun x => by simp [DataW.atKey]⟩

theorem SetB.kept {row : Option Nat} (h : SetB P k e w b S) (hg : w.grownBy w1 row) (hne : some b ≠ row) : SetB P k e w1 b S := by
  obtain ⟨n, D, hn, ho, hm, hat⟩ := h
  exact ⟨n, D, hn, ho.kept hg hne, hm, hat⟩

theorem SetB.alloc (h : SetB P k e w b S) (o : Obj) : SetB P k e (w.alloc o) b S := by
  obtain ⟨n, D, hn, ho, hm, hat⟩ := h
  exact ⟨n, D, hn, ho.alloc o, hm, hat⟩

theorem SetB.lookup (h : SetB P k e w b S) (hk : P.underlying k = some (.int .i64)) (he : P.underlying e = some .bool) (ht : P.underlying t = some (.map k e)) (hz : (zeroValue e).run P w = .ok (.bool false) w) {x : Int} (hx : (Lit.int .i64 x).wf = true) :
    (Instr.lookup t (.map (some b)) (.int .i64 x) false).run P w = .ok (.bool (decide (x ∈ S))) w := by
  obtain ⟨n, D, hn, ho, hm, hat⟩ := h
  obtain ⟨v, ps, hrun, hv⟩ := ho.lookup (int_keyed hk) ht hz (plainElem_bool he false) (keyOf_int_mk hk hx)
  rw [hat x] at hv
  rw [hrun]
  unfold plainElem at hv
  rw [he] at hv
  cases v <;> simp at hv
  rw [hv.1]

theorem SetB.update (h : SetB P k e w b S) (hk : P.underlying k = some (.int .i64)) (he : P.underlying e = some .bool) (ht : P.underlying t = some (.map k e)) (hn : S.length < maxLen) {x : Int} (hx : (Lit.int .i64 x).wf = true) :
    ∃ w', (Instr.mapUpdate t (.map (some b)) (.int .i64 x) (.bool true)).run P w = .ok () w' ∧ SetB P k e w' b (x :: S) ∧ w.grownBy w' (some b) := by
  obtain ⟨n, D, hnS, ho, hm, hat⟩ := h
  obtain ⟨w', hrun, ho', hg⟩ := ho.update (int_keyed hk) ht (Nat.lt_of_le_of_lt hnS hn) (keyOf_int_mk hk hx) (plainElem_bool (H := Unit) he true)
  refine ⟨w', hrun, ⟨n + 1, _, by simpa using hnS, ho', hm.put _ _, fun y => ?_⟩, hg⟩
  by_cases hy : y = x
  · subst hy
    rw [atKey_put_same hm (by simp [WideAt.IsKeyLit])]
    simp
  · rw [atKey_put_other (by intro h; injection h with _ h; exact hy h), hat y]
    simp [hy]

/-- 'm[x] = true' at the operation. -/
theorem SetB.store {ops : Array Oper} {rest : List Oper} {o : Oper} {a : Act} {Q : Exit → Act → World → Prop} (hgd : o.guard = none) (m x v : Operand) (hop : o.op = Op.mapUpdate t m x v)
    (hk : P.underlying k = some (.int .i64)) (he : P.underlying e = some .bool) (ht : P.underlying t = some (.map k e)) (h : SetB P k e w b S) (hn : S.length < maxLen) (y : Int) (hy : (Lit.int .i64 y).wf = true)
    (hm : a.eval m = .map (some b)) (hx : a.eval x = .int .i64 y) (hv : a.eval v = .bool true)
    (hK : ∀ w', SetB P k e w' b (y :: S) → w.grownBy w' (some b) → wpList P ops Q rest (a.put o.dst undef) w') : wpList P ops Q (o :: rest) a w := by
  refine wpList_plain hgd fun K' hK' => ?_
  obtain ⟨w', hrun, r1, r2⟩ := h.update hk he ht hn hy
  unfold Oper.wp
  simp [execOp, hop, hm, hx, hv, hrun, Result.andThen]
  exact hK' _ _ (hK w' r1 r2)

theorem SetB.lt (h : SetB P k e w b S) : b < w.heap.size := by
  obtain ⟨n, D, hn, ho, hm, hat⟩ := h
  exact ho.lt

/-- The block of such a map holds no cells: rows of the call's own lie elsewhere. -/
theorem SetB.ne_row {α : Type} {d : Kd α} {e' base : Nat} {ok : Nat → Prop} {v : Value} {xs : List α} (h : SetB P k e w b S) (hr : d.R e' w base ok v xs) : some b ≠ v.ownBlock := by
  obtain ⟨n, D, hn, ⟨es, clock, hb, _⟩, hm, hat⟩ := h
  intro hne
  obtain ⟨inner, ho⟩ := Kd.R_own hr
  obtain ⟨cells, hc⟩ := own_typed ho b hne.symm
  rw [hb] at hc
  cases hc

/-- A row of the call's own stays while the map is stored into. -/
theorem SetB.row_kept {α : Type} {d : Kd α} {e' base : Nat} {ok : Nat → Prop} {v : Value} {xs : List α} (h : SetB P k e w b S) (hr : d.R e' w base ok v xs) (hg : w.grownBy w1 (some b)) : d.R e' w1 base ok v xs := by
  obtain ⟨n, D, hn, ⟨es, clock, hb, _⟩, hm, hat⟩ := h
  refine Kd.R_mono (Kd.R_grown (Kd.R_bound hr) hg ?_) (fun _ hk => hk.1)
  rintro k ⟨_, _, _, q, _, cells, hc⟩ hkb
  injection hkb with hkb
  subst hkb
  rw [hb] at hc
  cases hc
end
end Go.Proofs.Ytjjgkgedadjodaa.Q
