/- What is proved: plain facts of the functions that the laws of precedence call: they copy, sort by insertion and compare. -/
import Derived.Test.YtopfjjdkffdjpaaQx6
import Derived.Test.YtopfjjdkffdjpaaQx51
import Derived.Test.YtopfjjdkffdjpaaQx4
import Derived.Test.YtopfjjdkffdjpaaHPSort
namespace Go.Proofs.Ytopfjjdkffdjpaa.Q
open Go.RowKit Go.Proofs.YtopfjjdkffdjpaaW.PrintWords Go.Proofs.YtopfjjdkffdjpaaW.PrintLast Go.Proofs.Ytopfjjdkffdjpaa.Srt
set_option linter.unusedVariables false
set_option linter.unusedSimpArgs false

abbrev Rf := S44
def fw (x : Rf) : Cd := ⟨x.f0, x.f1, x.f2, x.f3⟩
def bk (x : Cd) : Rf := ⟨x.f0, x.f1, x.f2, x.f3⟩
theorem bk_fw (x : Rf) : bk (fw x) = x := rfl
theorem fw_bk (x : Cd) : fw (bk x) = x := rfl
theorem wN (d : Nat) (h : d < 4611686018427387904) : wrap64 ((d : Int) + 1) = ((d + 1 : Nat) : Int) := by unfold wrap64; omega
theorem Ev.ret {α : Type} {g : Nat → Option α} {r : α} (h : ∀ k, g (k + 1) = some r) : Ev g r := ⟨1, fun n hn => by obtain ⟨m, rfl⟩ : ∃ m, n = m + 1 := ⟨n - 1, by omega⟩; exact h m⟩
theorem rdF (l : List Rf) (i : Nat) (h : i < l.length) : rd_T44 l (i : Int) = l[i] := by simp [rd_T44, List.getD, h]
theorem rdC (l : List Cd) (i : Nat) (h : i < l.length) : rd_T28 l (i : Int) = l[i] := by simp [rd_T28, List.getD, h]
theorem fwd_l0 (l : List Rf) (hl : l.length ≤ 1000) : ∀ (n i : Nat) (out : List Cd), i + n = l.length → out.length ≤ i → Ev (fun k => computuslaw20_forward.l0 k l out (i : Int)) (out ++ (l.drop i).map fw)
  | 0, i, out, h, _ => Ev.ret fun k => by
    simp only [computuslaw20_forward.l0]
    rw [if_neg (by omega), List.drop_of_length_le (by omega)]
    simp
  | n + 1, i, out, h, ho => by
    have hi : i < l.length := by omega
    have e := fwd_l0 l hl n (i + 1) (out ++ [fw l[i]]) (by omega) (by simp; omega)
    have e2 : out ++ (l.drop i).map fw = (out ++ [fw l[i]]) ++ (l.drop (i + 1)).map fw := by rw [List.drop_eq_getElem_cons hi, List.map_cons]; simp
    rw [e2]
    refine Ev.step (fun k => ?_) e
    simp only [computuslaw20_forward.l0]
    rw [if_pos (by omega), if_pos (by omega), if_pos (by omega), rdF l i hi, wN i (by omega)]
    rfl
theorem fwd_f (l : List Rf) (hl : l.length ≤ 1000) : Ev (fun k => computuslaw20_forward.f k l) (l.map fw) := by
  have := fwd_l0 l hl l.length 0 [] (by omega) (by simp)
  simpa [computuslaw20_forward.f] using this
/-- The same order, told of the reference's candidates. -/
def lessR (x y : Rf) : Bool := lessB (fw x) (fw y)
theorem refless_f (x y : Rf) : computusref20_Precedes.f x.f0 x.f1 x.f2 x.f3 y.f0 y.f1 y.f2 y.f3 = some (lessR x y) := by
  unfold computusref20_Precedes.f lessR lessB fw
  by_cases h2 : x.f2 = y.f2
  · rw [if_neg (by omega), if_pos h2, if_pos h2]
    by_cases h0 : x.f0 = y.f0
    · rw [if_neg (by omega), if_pos h0, if_pos h0]
    · rw [if_neg h0, if_neg h0]
      by_cases h : x.f0 < y.f0
      · rw [if_pos h, decide_eq_true h]
      · rw [if_neg h, decide_eq_false h]
  · rw [if_neg h2, if_neg h2]
    by_cases h : x.f2 < y.f2
    · rw [if_pos h, decide_eq_true h]
    · rw [if_neg h, decide_eq_false h]
theorem ins_map (x : Rf) : ∀ s : List Rf, (ins lessR x s).map fw = ins lessB (fw x) (s.map fw)
  | [] => rfl
  | y :: s => by
    rw [ins, List.map_cons, ins]
    show (if lessR x y = true then x :: y :: s else y :: ins lessR x s).map fw = if lessR x y = true then _ else _
    by_cases h : lessR x y = true
    · rw [if_pos h, if_pos h]; rfl
    · rw [if_neg h, if_neg h, List.map_cons, ins_map x s]
theorem isort_map (l : List Rf) : (isort lessR l).map fw = isort lessB (l.map fw) := by
  induction l using rev_ind with
  | nil => rfl
  | snoc l x ih => rw [isort_snoc, ins_map, ih, List.map_append, List.map_cons, List.map_nil, isort_snoc]
theorem map_bk (l : List Cd) : (l.map bk).map fw = l := by rw [List.map_map]; simpa using (List.map_congr_left (fun x _ => rfl) : l.map (fw ∘ bk) = l.map id)
theorem map_fw (l : List Rf) : (l.map fw).map bk = l := by rw [List.map_map]; simpa using (List.map_congr_left (fun x _ => rfl) : l.map (bk ∘ fw) = l.map id)
/-- The first of an insertion's list. -/
theorem ins_head (d x : Cd) : ∀ s : List Cd, s ≠ [] → (ins lessB x s).headD d = if lessB x (s.headD d) = true then x else s.headD d
  | [], h => absurd rfl h
  | y :: s, _ => by
    rw [ins]
    show _ = if lessB x y = true then x else y
    by_cases h : lessB x y = true
    · rw [if_pos h, if_pos h]; rfl
    · rw [if_neg h, if_neg h]; rfl
theorem ins_ne (x : Cd) (s : List Cd) : ins lessB x s ≠ [] := by
  intro h
  have := length_ins (p := lessB) x s
  rw [h] at this
  simp at this
theorem first_l0 (l : List Cd) (hl : l.length ≤ 1000) : ∀ (n i : Nat) (s : List Cd), i + n = l.length → s ≠ [] → Ev (fun k => precedence_First.l0 k l (l.length : Int) (i : Int) (s.headD z28).f0 (s.headD z28).f1 (s.headD z28).f2 (s.headD z28).f3)
    (let b := ((l.drop i).foldl (fun out x => ins lessB x out) s).headD z28; (b.f0, b.f1, b.f2, b.f3, true))
  | 0, i, s, h, hs => Ev.ret fun k => by
    simp only [precedence_First.l0]
    rw [if_neg (by omega), List.drop_of_length_le (by omega)]
    rfl
  | n + 1, i, s, h, hs => by
    have hi : i < l.length := by omega
    have e := first_l0 l hl n (i + 1) (ins lessB l[i] s) (by omega) (ins_ne _ _)
    rw [List.drop_eq_getElem_cons hi, List.foldl_cons]
    refine Ev.step (fun k => ?_) e
    simp only [precedence_First.l0]
    rw [if_pos (by omega), if_pos (by omega), if_pos (by omega), rdC l i hi, less_f l[i] (s.headD z28), Option.bind_some, wN i (by omega), ins_head _ _ _ hs]
    cases lessB l[i] (s.headD z28) <;> rfl
theorem first_f (l : List Cd) (hl : l.length ≤ 1000) (h0 : l ≠ []) : Ev (fun k => precedence_First.f k l) (let b := (isort lessB l).headD z28; (b.f0, b.f1, b.f2, b.f3, true)) := by
  cases l with
  | nil => exact absurd rfl h0
  | cons x l =>
    have e := first_l0 l (by simp at hl; omega) l.length 0 [x] (by omega) (by simp)
    refine Ev.congr (fun k => ?_) e
    simp only [precedence_First.f]
    rw [if_neg (by simp only [List.length_cons]; omega), if_pos (by simp only [List.length_cons]; omega), if_pos (by simp only [List.length_cons]; omega)]
    rfl
theorem first_nil (k : Nat) : precedence_First.f k [] = some (0, 0, 0, ⟨#[]⟩, false) := rfl
theorem rs_true (l s : List Rf) (i : Nat) (hl : l.length ≤ 1000) (hs : s.length ≤ 1000) (hi : i < 1000) (r : List Rf) : ∀ (n j : Nat) (out : List Rf), j + n = s.length → out.length ≤ j + 1 → Ev (fun k => computusref20_Sort.l0 k l (out ++ s.drop j) ((i + 1 : Nat) : Int)) r → Ev (fun k => computusref20_Sort.l1 k l s (i : Int) out true (j : Int)) r
  | 0, j, out, h, ho, e => by
    refine Ev.step (fun k => ?_) e
    simp only [computusref20_Sort.l1]
    rw [if_neg (by omega), if_pos trivial, wN i (by omega), List.drop_of_length_le (by omega), List.append_nil]
  | n + 1, j, out, h, ho, e => by
    have hj : j < s.length := by omega
    rw [List.drop_eq_getElem_cons hj] at e
    refine Ev.step (fun k => ?_) (rs_true l s i hl hs hi r n (j + 1) (out ++ [s[j]]) (by omega) (by simp; omega) (by simpa using e))
    simp only [computusref20_Sort.l1]
    rw [if_pos (by omega), if_pos trivial, if_pos (by omega), if_pos (by omega), rdF s j hj, wN j (by omega)]
theorem rs_false (l s : List Rf) (i : Nat) (hl : l.length ≤ 1000) (hs : s.length ≤ 1000) (hi : i < l.length) (r : List Rf) : ∀ (n j : Nat) (out : List Rf), j + n = s.length → out.length ≤ j → Ev (fun k => computusref20_Sort.l0 k l (out ++ ins lessR l[i] (s.drop j)) ((i + 1 : Nat) : Int)) r → Ev (fun k => computusref20_Sort.l1 k l s (i : Int) out false (j : Int)) r
  | 0, j, out, h, ho, e => by
    rw [List.drop_of_length_le (by omega)] at e
    refine Ev.step (fun k => ?_) e
    simp only [computusref20_Sort.l1]
    rw [if_neg (by omega), if_neg (by simp), if_pos (by omega), if_pos (by omega), if_pos (by omega), wN i (by omega), rdF l i hi]
    rfl
  | n + 1, j, out, h, ho, e => by
    have hj : j < s.length := by omega
    rw [List.drop_eq_getElem_cons hj, ins] at e
    cases hc : lessR l[i] s[j] with
    | true =>
      rw [if_pos hc] at e
      refine Ev.step (fun k => ?_) (rs_true l s i hl hs (by omega) r n (j + 1) (out ++ [l[i]] ++ [s[j]]) (by omega) (by simp; omega) (by simpa using e))
      simp only [computusref20_Sort.l1]
      rw [if_pos (by omega), if_neg (by simp), if_pos (by omega), if_pos (by omega), if_pos (by omega), rdF s j hj, rdF l i hi, refless_f, Option.bind_some, hc, if_pos rfl, if_pos (by omega), Option.bind_some, if_pos (by simp; omega), wN j (by omega)]
    | false =>
      rw [if_neg (by rw [hc]; simp)] at e
      refine Ev.step (fun k => ?_) (rs_false l s i hl hs hi r n (j + 1) (out ++ [s[j]]) (by omega) (by simp; omega) (by simpa using e))
      simp only [computusref20_Sort.l1]
      rw [if_pos (by omega), if_neg (by simp), if_pos (by omega), if_pos (by omega), if_pos (by omega), rdF s j hj, rdF l i hi, refless_f, Option.bind_some, hc, if_neg (by simp), if_pos (by omega), wN j (by omega)]
theorem rsort_l0 (l : List Rf) (hl : l.length ≤ 1000) : ∀ (n i : Nat) (s : List Rf), i + n = l.length → s.length ≤ i → Ev (fun k => computusref20_Sort.l0 k l s (i : Int)) ((l.drop i).foldl (fun out x => ins lessR x out) s)
  | 0, i, s, h, hs => Ev.ret fun k => by
    simp only [computusref20_Sort.l0]
    rw [if_neg (by omega), List.drop_of_length_le (by omega)]
    rfl
  | n + 1, i, s, h, hs => by
    have hi : i < l.length := by omega
    rw [List.drop_eq_getElem_cons hi, List.foldl_cons]
    have e := rsort_l0 l hl n (i + 1) (ins lessR l[i] s) (by omega) (by rw [length_ins]; omega)
    refine Ev.step (fun k => ?_) (rs_false l s i hl (by omega) hi _ s.length 0 [] (by omega) (by simp) (by simpa using e))
    simp only [computusref20_Sort.l0]
    rw [if_pos (by omega)]
    rfl
theorem rsort_f (l : List Rf) (hl : l.length ≤ 1000) : Ev (fun k => computusref20_Sort.f k l) (isort lessR l) := rsort_l0 l hl l.length 0 [] (by omega) (by simp)
end Go.Proofs.Ytopfjjdkffdjpaa.Q
