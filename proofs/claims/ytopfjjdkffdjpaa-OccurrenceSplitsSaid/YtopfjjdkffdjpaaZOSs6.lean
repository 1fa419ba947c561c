/- What is proved: what the statement OccurrenceSplitsSaid needs, part 7 of 7; the last part proves the statement. No condition. -/
import Derived.Test.YtopfjjdkffdjpaaZOSs5
set_option linter.unusedVariables false
set_option linter.unusedSimpArgs false
section
/- What is proved: the plain statement of OccurrenceSplits: each proper candidate is the principal one or in the list of its policy, once. -/
namespace Go.Proofs.Ytopfjjdkffdjpaa.Q
open Go.RowKit Go.Proofs.YtopfjjdkffdjpaaW.PrintWords Go.Proofs.YtopfjjdkffdjpaaW.PrintLast Go.Proofs.Ytopfjjdkffdjpaa.Cal Go.Proofs.Ytopfjjdkffdjpaa.Srt
theorem count_l0 (xs : List Int) (a : Int) (hl : xs.length ≤ 1000) : ∀ (s i : Nat) (n : Nat), i + s = xs.length → n ≤ i → Ev (fun k => computuslaw21_count.l0 k xs a (n : Int) (i : Int)) (((n + (xs.drop i).count a : Nat)) : Int)
 | 0, i, n, h, hn => Ev.fin fun k => by
  simp only [computuslaw21_count.l0]
  rw [if_neg (by omega), List.drop_of_length_le (by omega)]
  simp
 | s + 1, i, n, h, hn => by
  have hi : i < xs.length := by omega
  have hw : wrap64 ((i : Int) + 1) = ((i + 1 : Nat) : Int) := by rw [wq _ (by omega)]; omega
  have hw2 : wrap64 ((n : Int) + 1) = ((n + 1 : Nat) : Int) := by rw [wq _ (by omega)]; omega
  rw [List.drop_eq_getElem_cons hi, List.count_cons]
  by_cases he : xs[i] = a
  ·have e := count_l0 xs a hl s (i + 1) (n + 1) (by omega) (by omega)
   have e2 : n + (List.count a (xs.drop (i + 1)) + if (xs[i] == a) = true then 1 else 0) = n + 1 + List.count a (xs.drop (i + 1)) := by rw [if_pos (beq_iff_eq.2 he)]; omega
   rw [e2]
   refine Ev.step (fun k => ?_) e
   simp only [computuslaw21_count.l0]
   rw [if_pos (by omega), if_pos (by omega), rdI xs i hi, if_pos he, hw, hw2]
  ·have e := count_l0 xs a hl s (i + 1) n (by omega) (by omega)
   have e2 : n + (List.count a (xs.drop (i + 1)) + if (xs[i] == a) = true then 1 else 0) = n + List.count a (xs.drop (i + 1)) := by rw [if_neg (fun h => he (beq_iff_eq.1 h))]; omega
   rw [e2]
   refine Ev.step (fun k => ?_) e
   simp only [computuslaw21_count.l0]
   rw [if_pos (by omega), if_pos (by omega), rdI xs i hi, if_neg he, hw]
theorem count_ev (xs : List Int) (a : Int) (hl : xs.length ≤ 1000) : Ev (fun k => computuslaw21_count.f k xs a) ((xs.count a : Nat) : Int) := by
 have := count_l0 xs a hl xs.length 0 0 (by omega) (by omega)
 simpa [computuslaw21_count.f] using this
theorem count_fil (u : List Int) (hu : u.Nodup) (c : Int → Bool) (a : Int) (ha : a ∈ u) : (u.filter c).count a = if c a = true then 1 else 0 := by
 have h1 : (u.filter c).Nodup := hu.filter c
 by_cases hc : c a = true
 ·rw [if_pos hc]
  have := h1.count (a := a)
  rw [if_pos (List.mem_filter.2 ⟨ha, hc⟩)] at this
  exact this
 ·rw [if_neg hc]
  exact List.count_eq_zero.2 fun h => hc (List.mem_filter.1 h).2
theorem count_fil0 (u : List Int) (c : Int → Bool) (a : Int) (ha : a ∉ u) : (u.filter c).count a = 0 :=
 List.count_eq_zero.2 fun h => ha (List.mem_filter.1 h).1
theorem len_parts (l2 : List Fs) : ∀ u : List Int, (∀ j ∈ u, pol l2 j = 1 ∨ pol l2 j = 2 ∨ pol l2 j = 3) → (u.filter (c2 l2)).length + (u.filter (c3 l2)).length + (u.filter (c1 l2)).length = u.length
 | [], _ => rfl
 | j :: u, h => by
  have ih := len_parts l2 u fun x hx => h x (List.mem_cons_of_mem _ hx)
  rw [List.filter_cons, List.filter_cons, List.filter_cons]
  rcases h j List.mem_cons_self with e | e | e
  all_goals
   simp only [c2, c3, c1, e, List.length_cons] at ih ⊢
   simp
   omega
theorem prec20 (x : Rc) (p : Cd) : computusref20_Precedes.f x.f0 x.f1 x.f2 x.f3 p.f0 p.f1 p.f2 p.f3 = some (lessB (fwo x) p) := by
 unfold computusref20_Precedes.f lessB fwo
 by_cases h2 : x.f2 = p.f2
 ·rw [if_neg (by omega), if_pos h2, if_pos h2]
  by_cases h0 : x.f0 = p.f0
  ·rw [if_neg (by omega), if_pos h0, if_pos h0]
  ·rw [if_neg h0, if_neg h0]
   by_cases h : x.f0 < p.f0
   ·rw [if_pos h, decide_eq_true h]
   ·rw [if_neg h, decide_eq_false h]
 ·rw [if_neg h2, if_neg h2]
  by_cases h : x.f2 < p.f2
  ·rw [if_pos h, decide_eq_true h]
  ·rw [if_neg h, decide_eq_false h]
/-- Kind and index are the principal celebration's. -/
def keyE (p : Cd) (x : Cd) : Bool := decide (x.f0 = p.f0 ∧ x.f1 = p.f1)
structure Spl (l2 : List Fs) (l : List Rc) (p : Cd) (A B C : List Int) : Prop where
 len : l.length ≤ 100
 lA : A.length ≤ 100
 lB : B.length ≤ 100
 lC : C.length ≤ 100
 least : ∀ x ∈ l, lessB (fwo x) p = false
 same : ∀ x ∈ l, keyE p (fwo x) = true → fwo x = p
 zero : ∀ x ∈ l, keyE p (fwo x) = true → x.f0 = 2 → A.count x.f1 = 0 ∧ B.count x.f1 = 0 ∧ C.count x.f1 = 0
 one : ∀ x ∈ l, keyE p (fwo x) = false → x.f0 = 2 → (0 ≤ x.f1 ∧ x.f1 < (l2.length : Int)) ∧ ((pol l2 x.f1 = 2 ∧ A.count x.f1 = 1 ∧ B.count x.f1 = 0 ∧ C.count x.f1 = 0) ∨ (pol l2 x.f1 = 3 ∧ A.count x.f1 = 0 ∧ B.count x.f1 = 1 ∧ C.count x.f1 = 0) ∨ (pol l2 x.f1 = 1 ∧ A.count x.f1 = 0 ∧ B.count x.f1 = 0 ∧ C.count x.f1 = 1))
 all : (p.f0 = 2 ∧ A.length + B.length + C.length + 2 = l.length) ∨ (p.f0 ≠ 2 ∧ A.length + B.length + C.length + 1 = l.length)
section
variable {a0 : Int} {l1 : List Sn} {l2 : List Fs} {l : List Rc} {p : Cd} {A B C : List Int}
theorem times_ev (s : Spl l2 l p A B C) (a : Int) (n : Nat) (hn : A.count a + B.count a + C.count a = n) (hn2 : n ≤ 300) (q0 q1 q2 : Int) (q3 : ByteArray) : Ev (fun k => computuslaw21_times.f k q0 q1 q2 q3 A B C a) (n : Int) := by
 unfold computuslaw21_times.f
 have hA := s.lA
 have hB := s.lB
 have hC := s.lC
 refine Ev.bind (count_ev A a (by omega)) ?_
 refine Ev.bind (count_ev B a (by omega)) ?_
 refine Ev.bind (count_ev C a (by omega)) ?_
 have e : wrap64 (wrap64 (((A.count a : Nat) : Int) + ((B.count a : Nat) : Int)) + ((C.count a : Nat) : Int)) = (n : Int) := by
  rw [wq _ (by rw [wq _ (by omega)]; omega), wq _ (by omega)]; omega
 rw [e]
 exact Ev.now _
theorem listed_ev (s : Spl l2 l p A B C) (a : Int) (h : 0 ≤ a ∧ a < (l2.length : Int)) (q0 q1 q2 : Int) (q3 : ByteArray)
  (hp : (pol l2 a = 2 ∧ A.count a = 1 ∧ B.count a = 0 ∧ C.count a = 0) ∨ (pol l2 a = 3 ∧ A.count a = 0 ∧ B.count a = 1 ∧ C.count a = 0) ∨ (pol l2 a = 1 ∧ A.count a = 0 ∧ B.count a = 0 ∧ C.count a = 1)) :
  Ev (fun k => computuslaw21_listed.f k a0 l1 l2 q0 q1 q2 q3 A B C a) true := by
 unfold computuslaw21_listed.f
 have hA := s.lA
 have hB := s.lB
 have hC := s.lC
 unfold pol at hp
 refine Ev.congr (fun k => if_pos h.1) ?_
 refine Ev.congr (fun k => if_pos h.2) ?_
 rcases hp with ⟨e, n, _, _⟩ | ⟨e, _, n, _⟩ | ⟨e, _, _, n⟩
 ·refine Ev.congr (fun k => if_neg (by omega)) ?_
  refine Ev.congr (fun k => if_pos e) ?_
  refine Ev.bind (count_ev A a (by omega)) ?_
  rw [n]; exact Ev.now _
 ·refine Ev.congr (fun k => if_neg (by omega)) ?_
  refine Ev.congr (fun k => if_neg (by omega)) ?_
  refine Ev.bind (count_ev B a (by omega)) ?_
  rw [n]; exact Ev.now _
 ·refine Ev.congr (fun k => if_pos e) ?_
  refine Ev.bind (count_ev C a (by omega)) ?_
  rw [n]; exact Ev.now _
theorem splits_l0 (s : Spl l2 l p A B C) : ∀ (t i n : Nat), i + t = l.length → n + ((l.drop i).filter (fun x => keyE p (fwo x))).length = 1 →
  Ev (fun k => computuslaw21_OccurrenceSplits.l0 k l (n : Int) (i : Int) a0 l1 l2 p.f0 p.f1 p.f2 p.f3 A B C p.f0 p.f1 p.f2 p.f3) true
 | 0, i, n, h, hn => Ev.fin fun k => by
  have hlen := s.len
  have hA := s.lA
  have hB := s.lB
  have hC := s.lC
  rw [List.drop_of_length_le (by omega)] at hn
  have hn1 : n = 1 := by simpa using hn
  subst hn1
  simp only [computuslaw21_OccurrenceSplits.l0]
  rw [if_neg (by omega)]
  rcases s.all with ⟨e, ha⟩ | ⟨e, ha⟩
  ·rw [if_pos e, if_pos (by rfl), wq _ (by rw [wq _ (by omega)]; omega), wq ((A.length : Int) + _) (by omega), wq ((wrap64 _) - 1) (by rw [wq _ (by omega)]; omega), wq _ (by omega)]
   congr 1
   exact beq_iff_eq.2 (by omega)
  ·rw [if_neg e, if_pos (by rfl), wq _ (by rw [wq _ (by omega)]; omega), wq ((A.length : Int) + _) (by omega), wq ((l.length : Int) - 1) (by omega)]
   congr 1
   exact beq_iff_eq.2 (by omega)
 | t + 1, i, n, h, hn => by
  have hi : i < l.length := by omega
  have hlen := s.len
  have hw : wrap64 ((i : Int) + 1) = ((i + 1 : Nat) : Int) := by rw [wq _ (by omega)]; omega
  have hx := List.getElem_mem hi
  have hn' : n ≤ 1 := by omega
  have hw2 : wrap64 ((n : Int) + 1) = ((n + 1 : Nat) : Int) := by rw [wq _ (by omega)]; omega
  have hr : rd_T44 l (i : Int) = l[i] := rdRc l i hi
  have hpr : computusref20_Precedes.f l[i].f0 l[i].f1 l[i].f2 l[i].f3 p.f0 p.f1 p.f2 p.f3 = some false := by rw [prec20, s.least _ hx]
  rw [List.drop_eq_getElem_cons hi, List.filter_cons] at hn
  by_cases he : keyE p (fwo l[i]) = true
  ·have e1 := s.same _ hx he
   have f0 : l[i].f0 = p.f0 := congrArg (·.f0) e1
   have f1 : l[i].f1 = p.f1 := congrArg (·.f1) e1
   have f2 : l[i].f2 = p.f2 := congrArg (·.f2) e1
   have f3 : l[i].f3 = p.f3 := congrArg (·.f3) e1
   have hm : (l[i].f0 == p.f0 && (l[i].f1 == p.f1 && (l[i].f2 == p.f2 && (l[i].f3.toList == p.f3.toList)))) = true := by rw [f0, f1, f2, f3]; simp
   rw [if_pos he, List.length_cons] at hn
   have ih := splits_l0 s t (i + 1) (n + 1) (by omega) (by omega)
   by_cases h2 : l[i].f0 = 2
   ·obtain ⟨z1, z2, z3⟩ := s.zero _ hx he h2
    have ht := times_ev s l[i].f1 0 (by omega) (by omega) p.f0 p.f1 p.f2 p.f3
    refine Ev.step (f := fun k => (computuslaw21_times.f k p.f0 p.f1 p.f2 p.f3 A B C l[i].f1).bind fun t629 => (if t629 = 0 then computuslaw21_OccurrenceSplits.l0 k l ((n + 1 : Nat) : Int) ((i + 1 : Nat) : Int) a0 l1 l2 p.f0 p.f1 p.f2 p.f3 A B C p.f0 p.f1 p.f2 p.f3 else none)) (fun k => ?_) ?_
    ·simp only [computuslaw21_OccurrenceSplits.l0]
     rw [if_pos (by omega), if_pos (by omega), hr, hpr, Option.bind_some, if_neg (by simp), if_pos hm, if_pos h2, hw, hw2]
    ·refine Ev.bind ht ?_
     exact Ev.congr (fun k => if_pos rfl) ih
   ·refine Ev.step (fun k => ?_) ih
    simp only [computuslaw21_OccurrenceSplits.l0]
    rw [if_pos (by omega), if_pos (by omega), hr, hpr, Option.bind_some, if_neg (by simp), if_pos hm, if_neg h2, hw, hw2]
  ·have hm : ¬ (l[i].f0 == p.f0 && (l[i].f1 == p.f1 && (l[i].f2 == p.f2 && (l[i].f3.toList == p.f3.toList)))) = true := by
    intro hh
    rw [Bool.and_eq_true, Bool.and_eq_true] at hh
    exact he (decide_eq_true ⟨beq_iff_eq.1 hh.1, beq_iff_eq.1 hh.2.1⟩)
   rw [if_neg he] at hn
   have ih := splits_l0 s t (i + 1) n (by omega) hn
   by_cases h2 : l[i].f0 = 2
   ·obtain ⟨z, zz⟩ := s.one _ hx (by simpa using he) h2
    have ht := times_ev s l[i].f1 1 (by omega) (by omega) p.f0 p.f1 p.f2 p.f3
    have hl := listed_ev (a0 := a0) (l1 := l1) s l[i].f1 z p.f0 p.f1 p.f2 p.f3 zz
    refine Ev.step (f := fun k => (computuslaw21_times.f k p.f0 p.f1 p.f2 p.f3 A B C l[i].f1).bind fun t629 => (if t629 = 1 then ((computuslaw21_listed.f k a0 l1 l2 p.f0 p.f1 p.f2 p.f3 A B C l[i].f1).bind fun t634 => (if t634 = true then computuslaw21_OccurrenceSplits.l0 k l (n : Int) ((i + 1 : Nat) : Int) a0 l1 l2 p.f0 p.f1 p.f2 p.f3 A B C p.f0 p.f1 p.f2 p.f3 else none)) else none)) (fun k => ?_) ?_
    ·simp only [computuslaw21_OccurrenceSplits.l0]
     rw [if_pos (by omega), if_pos (by omega), hr, hpr, Option.bind_some, if_neg (by simp), if_neg hm, if_pos h2, hw]
    ·refine Ev.bind ht ?_
     refine Ev.congr (fun k => if_pos rfl) ?_
     refine Ev.bind hl ?_
     exact Ev.congr (fun k => if_pos rfl) ih
   ·refine Ev.step (fun k => ?_) ih
    simp only [computuslaw21_OccurrenceSplits.l0]
    rw [if_pos (by omega), if_pos (by omega), hr, hpr, Option.bind_some, if_neg (by simp), if_neg hm, if_neg h2, hw]
end
section
variable {l2 : List Fs} {h : Cd} {is : List Nat}
theorem keys_of {L : List Cd} (d : Day l2 h is L) : L.Pairwise (fun x y => ¬ (x.f0 = y.f0 ∧ x.f1 = y.f1)) := by
 rw [d.eq, List.pairwise_cons]
 refine ⟨fun y hy => ?_, ?_⟩
 ·obtain ⟨i, hi, rfl⟩ := List.mem_map.1 hy
  intro hh
  have e : (fwo (prop l2 i)).f0 = 2 := rfl
  rw [e, d.h1] at hh
  exact absurd hh.1 (by omega)
 ·rw [List.pairwise_map]
  refine d.inc.imp fun {a b} hab hh => ?_
  have e2 : (a : Int) = (b : Int) := hh.2
  omega
theorem keys_unique : ∀ {L : List Cd} (_ : L.Pairwise (fun x y => ¬ (x.f0 = y.f0 ∧ x.f1 = y.f1))) {x y : Cd}, x ∈ L → y ∈ L → x.f0 = y.f0 → x.f1 = y.f1 → x = y
 | z :: L, hp, x, y, hx, hy, e0, e1 => by
  rw [List.pairwise_cons] at hp
  rcases List.mem_cons.1 hx with ex | hx1
  ·rcases List.mem_cons.1 hy with ey | hy1
   ·rw [ex, ey]
   ·subst ex; exact absurd ⟨e0, e1⟩ (hp.1 _ hy1)
  ·rcases List.mem_cons.1 hy with ey | hy1
   ·subst ey; exact absurd ⟨e0.symm, e1.symm⟩ (hp.1 _ hx1)
   ·exact keys_unique hp.2 hx1 hy1 e0 e1
theorem keys_one : ∀ {L : List Cd} (_ : L.Pairwise (fun x y => ¬ (x.f0 = y.f0 ∧ x.f1 = y.f1))) {p : Cd}, p ∈ L → (L.filter (keyE p)).length = 1
 | z :: L, hp, p, hm => by
  rw [List.pairwise_cons] at hp
  rw [List.filter_cons]
  rcases List.mem_cons.1 hm with em | hm1
  ·subst em
   rw [if_pos (show keyE p p = true from decide_eq_true ⟨rfl, rfl⟩)]
   have : L.filter (keyE p) = [] := List.filter_eq_nil_iff.2 fun y hy hk => by
    have := of_decide_eq_true hk
    exact hp.1 y hy ⟨this.1.symm, this.2.symm⟩
   rw [this]; rfl
  ·rw [if_neg (fun hk : keyE p z = true => hp.1 p hm1 (of_decide_eq_true hk))]
   exact keys_one hp.2 hm1
theorem nodup_is : ∀ {is : List Nat}, is.Pairwise (· < ·) → (is.map (fun i : Nat => (i : Int))).Nodup
 | is, hp => by
  unfold List.Nodup
  rw [List.pairwise_map]
  exact hp.imp fun {a b} hab => by omega
theorem spl_of {l : List Rc} (d : Day l2 h is (l.map fwo)) (ho : ∀ f ∈ l2, feastOk f) (hl : l.length ≤ 100) {p : Cd} {T : List Cd} (hS : isort lessB (l.map fwo) = p :: T) :
  Spl l2 l p ((feasts T).filter (c2 l2)) ((feasts T).filter (c3 l2)) ((feasts T).filter (c1 l2)) := by
 have hperm := isort_perm lessB (l.map fwo)
 rw [hS] at hperm
 have hsr := isort_srtd wo_less (l.map fwo)
 unfold Srtd at hsr
 rw [hS, List.pairwise_cons] at hsr
 have hpm : p ∈ l.map fwo := hperm.mem_iff.1 List.mem_cons_self
 have hkeys := keys_of d
 have hmem : ∀ x ∈ l, fwo x = p ∨ fwo x ∈ T := fun x hx => List.mem_cons.1 (hperm.mem_iff.2 (List.mem_map.2 ⟨x, hx, rfl⟩))
 have hf := feasts_perm (l.map fwo)
 rw [hS, feasts_of d] at hf
 have hnd : (feasts (p :: T)).Nodup := hf.nodup_iff.2 (nodup_is d.inc)
 have hlenf : (feasts (p :: T)).length = is.length := by rw [hf.length_eq, List.length_map]
 have hll : l.length = is.length + 1 := by
  have := congrArg List.length d.eq
  simpa using this
 have hfc : feasts (p :: T) = if p.f0 = 2 then p.f1 :: feasts T else feasts T := by
  unfold feasts
  rw [List.filterMap_cons]
  by_cases h2 : p.f0 = 2
  ·have e : selI p = some p.f1 := by unfold selI; rw [if_pos h2]
   rw [e, if_pos h2]
  ·have e : selI p = none := by unfold selI; rw [if_neg h2]
   rw [e, if_neg h2]
 have hndT : (feasts T).Nodup := by
  rw [hfc] at hnd
  split at hnd
  ·exact (List.nodup_cons.1 hnd).2
  ·exact hnd
 have hrg : ∀ j ∈ feasts T, 0 ≤ j ∧ j < (l2.length : Int) := fun j hj => by
  refine range_of d (j := j) ?_
  rw [hS, hfc]
  split
  ·exact List.mem_cons_of_mem _ hj
  ·exact hj
 have hpol : ∀ j, 0 ≤ j → j < (l2.length : Int) → pol l2 j = 1 ∨ pol l2 j = 2 ∨ pol l2 j = 3 := fun j j0 j1 => by
  obtain ⟨q, rfl⟩ : ∃ q : Nat, j = (q : Int) := ⟨j.toNat, by omega⟩
  have hq : q < l2.length := by omega
  have := (ho _ (List.getElem_mem hq)).2.1
  unfold pol
  rw [rdFs l2 q hq]
  omega
 have hparts := len_parts l2 (feasts T) fun j hj => hpol j (hrg j hj).1 (hrg j hj).2
 have hTl : (feasts T).length ≤ 100 := by
  have := hlenf
  rw [hfc] at this
  split at this
  ·rw [List.length_cons] at this; omega
  ·omega
 have inT : ∀ x : Rc, fwo x ∈ T → x.f0 = 2 → x.f1 ∈ feasts T := fun x hx h2 => by
  unfold feasts
  refine List.mem_filterMap.2 ⟨fwo x, hx, ?_⟩
  have e0 : (fwo x).f0 = 2 := h2
  unfold selI
  rw [if_pos e0]
  rfl
 refine ⟨hl, by omega, by omega, by omega, fun x hx => ?_, fun x hx hk => ?_, fun x hx hk h2 => ?_, fun x hx hk h2 => ?_, ?_⟩
 ·rcases hmem x hx with e | e
  ·rw [e]
   unfold lessB
   simp
  ·exact hsr.1 _ e
 ·have := of_decide_eq_true hk
  exact keys_unique hkeys (List.mem_map.2 ⟨x, hx, rfl⟩) hpm this.1 this.2
 ·have e := keys_unique hkeys (List.mem_map.2 ⟨x, hx, rfl⟩) hpm (of_decide_eq_true hk).1 (of_decide_eq_true hk).2
  have e1 : x.f1 = p.f1 := congrArg (·.f1) e
  have e0 : p.f0 = 2 := (congrArg (·.f0) e).symm.trans h2
  rw [hfc, if_pos e0] at hnd
  have hni := (List.nodup_cons.1 hnd).1
  rw [e1]
  exact ⟨count_fil0 _ _ _ hni, count_fil0 _ _ _ hni, count_fil0 _ _ _ hni⟩
 ·have hT : fwo x ∈ T := by
   rcases hmem x hx with e | e
   ·rw [e] at hk
    exact absurd hk (by rw [show keyE p p = true from decide_eq_true ⟨rfl, rfl⟩]; simp)
   ·exact e
  have hin := inT x hT h2
  have hr := hrg _ hin
  refine ⟨hr, ?_⟩
  rw [count_fil _ hndT _ _ hin, count_fil _ hndT _ _ hin, count_fil _ hndT _ _ hin]
  rcases hpol _ hr.1 hr.2 with e | e | e
  ·exact .inr (.inr ⟨e, by simp [c2, e], by simp [c2, c3, e], by simp [c2, c1, e]⟩)
  ·exact .inl ⟨e, by simp [c2, e], by simp [c2, c3, e], by simp [c2, c1, e]⟩
  ·exact .inr (.inl ⟨e, by simp [c2, e], by simp [c2, c3, e], by simp [c2, c1, e]⟩)
 ·rw [hfc] at hlenf
  by_cases e0 : p.f0 = 2
  ·rw [if_pos e0, List.length_cons] at hlenf
   exact .inl ⟨e0, by omega⟩
  ·rw [if_neg e0] at hlenf
   exact .inr ⟨e0, by omega⟩
end
theorem Pure.OccurrenceSplits : computuslaw21_OccurrenceSplits.Pure := by
 intro a0 l1 l2 y day _ _ _ _ _ _ _
 refine Ev.rounds (g := fun k => computuslaw21_OccurrenceSplits.f k a0 l1 l2 y day) ?_
 unfold computuslaw21_OccurrenceSplits.f
 refine occ_start (f := fun k b => computuslaw21_OccurrenceSplits.j0 k y day b a0 l1 l2) ?_ (fun hc hl1 hl2 hd => ?_)
 ·refine Ev.step (f := fun k => (computuslaw21_awake.f k).bind fun t => some t) (fun k => ?_) (Ev.bind awake21 (Ev.now _))
  simp only [computuslaw21_OccurrenceSplits.j0]
  rw [if_pos trivial]
 ·obtain ⟨l, hl, hn, he⟩ := cands_ev a0 l1 l2 hc (by omega) (by omega) y day hd
  obtain ⟨h, is, d⟩ := day_of hl
  have hf := resolve_f d hc.2.2 (by rw [List.length_map]; omega) a0 l1
  obtain ⟨p, T, hS⟩ : ∃ p T, isort lessB (l.map fwo) = p :: T := by
   have hlen : (isort lessB (l.map fwo)).length = l.length := by rw [length_isort, List.length_map]
   have hpos : 0 < l.length := by
    have := congrArg List.length d.eq
    simp at this
    omega
   match hs : isort lessB (l.map fwo) with
   | [] => rw [hs] at hlen; simp at hlen; omega
   | p :: T => exact ⟨p, T, rfl⟩
  have s := spl_of d hc.2.2 (by omega) hS
  have hone := keys_one (keys_of d) (p := p) ((isort_perm lessB (l.map fwo)).mem_iff.1 (by rw [hS]; exact List.mem_cons_self))
  have hone2 : (l.filter (fun x => keyE p (fwo x))).length = 1 := by
   rw [List.filter_map, List.length_map] at hone
   exact hone
  rw [hS] at hf
  refine Ev.step (f := fun k => (computusref19_Of.f k a0 l1 l2 y day).bind fun t603 => ((computuslaw21_forward.f k t603).bind fun t606 => ((occurrence_Resolve.f a0 l1 l2 t606).bind fun bt609 => (computuslaw21_OccurrenceSplits.l0 k t603 0 0 a0 l1 l2 bt609.1 bt609.2.1 bt609.2.2.1 bt609.2.2.2.1 bt609.2.2.2.2.1 bt609.2.2.2.2.2.1 bt609.2.2.2.2.2.2 bt609.1 bt609.2.1 bt609.2.2.1 bt609.2.2.2.1)))) (fun k => ?_) ?_
  ·simp only [computuslaw21_OccurrenceSplits.j0]
   rw [if_neg (by simp)]
  ·refine Ev.bind he ?_
   refine Ev.bind (fwd21_f l (by omega)) ?_
   simp only [hf, Option.bind_some]
   exact splits_l0 s l.length 0 0 (by omega) (by simpa using hone2)
end Go.Proofs.Ytopfjjdkffdjpaa.Q
end
section
/- What is proved: what the form reads as0 data of a type, the print's words read as0 a Lean value of that type's kind ('Opens'), for whole numbers, bools, strings, slices and structs. -/
namespace Go.Proofs.Ytopfjjdkffdjpaa.Q
open Go.ChangeShapes Go.WideShapes Go.Proofs.YtopfjjdkffdjpaaW.PrintWords
/-- Whatever is read as0 data of type t is a value x of kind d, and Wf x. -/
def Opens {α : Type} (P : Program) (t : TypeId) (d : Kd α) (Wf : α → Prop) : Prop :=
 ∀ (H : Type) (enc : TypeId × Value → H) (w : World) (fuel : Nat) (cs : List Value) (y : DataW H × List MemPlace),
  DataW.trod enc P w 0 (fun _ => true) true fuel t cs = some y → ∃ x, d.K w x cs ∧ Wf x
theorem Opens.int {P : Program} {t : TypeId} {k : IntKind} (ht : P.underlying t = some (.int k)) : Opens P t (Kd.int k) (fun n => (Lit.int k n).wf = true) := by
 intro H enc w fuel cs y h
 obtain ⟨n, hc, _, hw⟩ := DataW.trod_int ht h
 exact ⟨n, hc, hw⟩
theorem Opens.bool {P : Program} {t : TypeId} (ht : P.underlying t = some .bool) : Opens P t Kd.bool (fun _ => True) := by
 intro H enc w fuel cs y h
 cases fuel with
 | zero => simp [DataW.trod] at h
 | succ n =>
  have hb : ∃ b, cs = [.bool b] := by
   unfold DataW.trod at h
   rw [ht] at h
   split at h <;> simp_all
  obtain ⟨b, rfl⟩ := hb
  exact ⟨b, rfl, trivial⟩
theorem Opens.string {P : Program} {t : TypeId} (ht : P.underlying t = some .string) : Opens P t Kd.string (fun s => s.size ≤ maxLen) := by
 intro H enc w fuel cs y h
 cases fuel with
 | zero => simp [DataW.trod] at h
 | succ n =>
  unfold DataW.trod at h
  rw [ht] at h
  split at h <;> simp_all
  obtain ⟨h1, _⟩ := h
  exact ⟨_, rfl, h1⟩
theorem mapM_range {β : Type} (f : Nat → Option β) : ∀ (n : Nat) (ys : List β), (List.range n).mapM f = some ys → ys.length = n ∧ ∀ i, i < n → f i = ys[i]? := by
 intro n
 induction n with
 | zero => intro ys h; simp at h; subst h; simp
 | succ n ih =>
  intro ys h
  rw [List.range_succ, List.mapM_append] at h
  simp only [Option.bind_eq_bind, Option.bind_eq_some_iff, List.mapM_cons, List.mapM_nil, Option.pure_def] at h
  obtain ⟨a, ha, b, ⟨c, hc, d, hd, hb⟩, he⟩ := h
  cases hd
  cases hb
  cases he
  obtain ⟨hl, hall⟩ := ih a ha
  refine ⟨by simp [hl], fun i hi => ?_⟩
  by_cases hin : i < n
  ·rw [hall i hin, List.getElem?_append_left (by omega)]
  ·obtain rfl : i = n := by omega
   rw [hc, List.getElem?_append_right (by omega), hl]
   simp
theorem cells?_at {w : World} {a : Addr} {n : Nat} {cs : List Value} (h : w.cells? 0 a n = some cs) : cs.length = n ∧ ∀ i u, cs[i]? = some u → w.cell? (a.add i) = some u := by
 unfold World.cells? at h
 rw [if_pos (Nat.zero_le _)] at h
 obtain ⟨hl, hall⟩ := mapM_range _ _ _ h
 refine ⟨hl, fun i u hu => ?_⟩
 have hi : i < n := by have := (List.getElem?_eq_some_iff.1 hu).1; omega
 rw [hall i hi, hu]
theorem Opens.slice {α : Type} {P : Program} {t e : TypeId} {d : Kd α} {Wf : α → Prop} (ht : P.underlying t = some (.slice e)) (he : P.cellsOf e = d.sz) (ho : Opens P e d Wf) : Opens P t (Kd.slice e d) (fun xs => xs.length ≤ maxLen ∧ ∀ x ∈ xs, Wf x) := by
 classical
 intro H enc w fuel cs y h
 rcases Go.Deep.open_slice ht h with ⟨rfl, _⟩ | ⟨a, len, cap, m, n, D, Pl, rfl, _, hl, hm, hmm, _, hel⟩
 ·exact ⟨[], ⟨none, 0, rfl, Nat.le_refl _, rfl, Nat.zero_le _, fun h0 => absurd h0 (by simp)⟩, by simp [maxLen]⟩
 ·have hx : ∀ i, i < len → ∃ x cs', cs'.length = d.sz ∧ (∀ j u, cs'[j]? = some u → w.cell? (a.add (i * d.sz + j)) = some u) ∧ d.K w x cs' ∧ Wf x := by
   intro i hi
   obtain ⟨cs', hc, htr⟩ := hel i (by rw [hmm]; simp; omega)
   rw [he] at hc
   obtain ⟨hcl, hcc⟩ := cells?_at hc
   obtain ⟨x, hK, hW⟩ := ho H enc w n cs' _ htr
   refine ⟨x, cs', hcl, fun j u hu => ?_, hK, hW⟩
   have := hcc j u hu
   rwa [Go.Deep.add_add] at this
  have hf : ∃ f : (i : Nat) → i < len → α, ∀ i (hi : i < len), ∃ cs', cs'.length = d.sz ∧ (∀ j u, cs'[j]? = some u → w.cell? (a.add (i * d.sz + j)) = some u) ∧ d.K w (f i hi) cs' ∧ Wf (f i hi) :=
   ⟨fun i hi => Classical.choose (hx i hi), fun i hi => Classical.choose_spec (hx i hi)⟩
  obtain ⟨f, hf⟩ := hf
  have hlen : (List.ofFn (fun i : Fin len => f i.1 i.2)).length = len := by simp
  refine ⟨List.ofFn (fun i : Fin len => f i.1 i.2), ⟨some a, cap, by rw [hlen], by rw [hlen]; exact hl, rfl, by rw [hlen]; unfold maxLen at hm; omega, fun _ => ⟨a, rfl, fun j p hj => ?_⟩⟩, by rw [hlen]; omega, fun x hxm => ?_⟩
  ·have hjl : j < len := by have := (List.getElem?_eq_some_iff.1 hj).1; simpa using this
   rw [List.getElem?_eq_getElem (by simpa using hjl)] at hj
   simp at hj
   subst hj
   obtain ⟨cs', h1, h2, h3, h4⟩ := hf j hjl
   exact ⟨cs', h1, h3, h2⟩
  ·obtain ⟨i, rfl⟩ := List.mem_ofFn.1 hxm
   exact (hf i.1 i.2).choose_spec.2.2.2
/-- The fields of a struct, from cell 'off' on. -/
def OpensF {α : Type} (P : Program) (off : Nat) (fs : List Field) (d : Kd α) (Wf : α → Prop) : Prop :=
 ∀ (H : Type) (enc : TypeId × Value → H) (w : World) (fuel : Nat) (cs : List Value) (ys : List (DataW H × List MemPlace)), cs.length = off + d.sz →
  (fs.mapM fun f => DataW.trod enc P w 0 (fun _ => true) true fuel f.type ((cs.drop f.offset).take (P.cellsOf f.type))) = some ys → ∃ x, d.K w x (cs.drop off) ∧ Wf x
theorem OpensF.last {α : Type} {P : Program} {off : Nat} {f : Field} {d : Kd α} {Wf : α → Prop} (hoff : f.offset = off) (hc : P.cellsOf f.type = d.sz) (h : Opens P f.type d Wf) : OpensF P off [f] d Wf := by
 intro H enc w fuel cs ys hl hm
 simp only [List.mapM_cons, List.mapM_nil, Option.bind_eq_bind, Option.bind_eq_some_iff] at hm
 obtain ⟨a, ha, _⟩ := hm
 rw [hoff, hc, List.take_of_length_le (by rw [List.length_drop]; omega)] at ha
 exact h H enc w fuel _ a ha
theorem OpensF.cons {α β : Type} {P : Program} {off : Nat} {f : Field} {fs : List Field} {d : Kd α} {d' : Kd β} {Wf : α → Prop} {Wf' : β → Prop} (hoff : f.offset = off) (hc : P.cellsOf f.type = d.sz) (h : Opens P f.type d Wf)
  (h' : OpensF P (off + d.sz) fs d' Wf') : OpensF P off (f :: fs) (Kd.pair d d') (fun x => Wf x.1 ∧ Wf' x.2) := by
 intro H enc w fuel cs ys hl hm
 have hsz : (Kd.pair d d').sz = d.sz + d'.sz := rfl
 rw [hsz] at hl
 simp only [List.mapM_cons, Option.bind_eq_bind, Option.bind_eq_some_iff] at hm
 obtain ⟨a, ha, b, hb, _⟩ := hm
 rw [hoff, hc] at ha
 obtain ⟨x, hx, hwx⟩ := h H enc w fuel _ a ha
 obtain ⟨x', hx', hwx'⟩ := h' H enc w fuel cs b (by omega) hb
 refine ⟨(x, x'), ⟨_, _, ?_, hx, hx'⟩, hwx, hwx'⟩
 rw [← List.drop_drop, List.take_append_drop]
theorem Opens.struct {α : Type} {P : Program} {t : TypeId} {fs : Array Field} {d : Kd α} {Wf : α → Prop} (ht : P.underlying t = some (.struct fs)) (hc : P.cellsOf t = d.sz) (h : OpensF P 0 fs.toList d Wf) : Opens P t d Wf := by
 intro H enc w fuel cs y hy
 cases fuel with
 | zero => simp [DataW.trod] at hy
 | succ n =>
  unfold DataW.trod at hy
  rw [ht] at hy
  simp only at hy
  split at hy
  ·rename_i hl
   simp only [Option.map_eq_some_iff] at hy
   obtain ⟨ys, hys, _⟩ := hy
   have := h H enc w n cs ys (by omega) hys
   simpa using this
  ·cases hy
theorem Opens.iso {α β : Type} {P : Program} {t : TypeId} {d : Kd α} {Wf : α → Prop} {f : β → α} (h : Opens P t d Wf) (g : α → β) (hg : ∀ x, f (g x) = x) : Opens P t (Kd.iso d f) (fun b => Wf (f b)) := by
 intro H enc w fuel cs y hy
 obtain ⟨x, hx, hw⟩ := h H enc w fuel cs y hy
 exact ⟨g x, by show d.K w (f (g x)) cs; rw [hg]; exact hx, by show Wf (f (g x)); rw [hg]; exact hw⟩
theorem Opens.imp {α : Type} {P : Program} {t : TypeId} {d : Kd α} {Wf Wf' : α → Prop} (h : Opens P t d Wf) (hw : ∀ x, Wf x → Wf' x) : Opens P t d Wf' := by
 intro H enc w fuel cs y hy
 obtain ⟨x, hx, hwx⟩ := h H enc w fuel cs y hy
 exact ⟨x, hx, hw _ hwx⟩
/-- A parameter that is a slice. -/
theorem open_row {H : Type} {enc : TypeId × Value → H} {α : Type} {P : Program} {w : World} {r : Reach} {b0 : Nat} {t e : TypeId} {d : Kd α} {Wf : List α → Prop} {v : Value} {y : DataW H} {p : List MemPlace} (ht : P.underlying t = some (.slice e)) (ho : Opens P t (Kd.slice e d) Wf)
  (hv : Value.okWide P w r b0 t v) (h : DataW.Trod enc P w 0 (fun _ => true) true t v y p) : ∃ (A : Option Addr) (c : Nat) (xs : List α), v = .slice A xs.length c ∧ xs.length ≤ c ∧ d.C w A xs.length xs ∧ Wf xs := by
 obtain ⟨a0, len, cap, rfl⟩ := okWide_slice ht hv
 obtain ⟨fuel, hf⟩ := h
 obtain ⟨xs, ⟨A, c, hc, hl, hC⟩, hW⟩ := ho H enc w fuel _ _ hf
 simp [Value.cells] at hc
 obtain ⟨rfl, rfl, rfl⟩ := hc
 exact ⟨_, _, xs, rfl, hl, hC, hW⟩
/-- A parameter that is a struct. -/
theorem open_struct {H : Type} {enc : TypeId × Value → H} {α : Type} {P : Program} {w : World} {r : Reach} {b0 : Nat} {t : TypeId} {fs : Array Field} {d : Kd α} {Wf : α → Prop} {v : Value} {y : DataW H} {p : List MemPlace} (ht : P.underlying t = some (.struct fs)) (ho : Opens P t d Wf)
  (hv : Value.okWide P w r b0 t v) (h : DataW.Trod enc P w 0 (fun _ => true) true t v y p) : ∃ (cs : List Value) (x : α), v = .agg cs.toArray ∧ d.K w x cs ∧ Wf x := by
 obtain ⟨cs, rfl, hsz⟩ := okWide_struct ht hv
 obtain ⟨fuel, hf⟩ := h
 obtain ⟨x, hK, hW⟩ := ho H enc w fuel _ _ hf
 exact ⟨cs.toList, x, by simp, hK, hW⟩
end Go.Proofs.Ytopfjjdkffdjpaa.Q
end
section
namespace Go.Proofs.Ytopfjjdkffdjpaa.Q
open Go.RowKit Go.Proofs.YtopfjjdkffdjpaaW.PrintWords
theorem op44 : Opens Try.prog 44 k44 wf44 := (Opens.struct Try.underlying44 (by kernel_rfl) (OpensF.cons rfl (by kernel_rfl) (Opens.int Try.underlying3) (OpensF.cons rfl (by kernel_rfl) (Opens.int Try.underlying3) (OpensF.cons rfl (by kernel_rfl) (Opens.int Try.underlying3) (OpensF.last rfl (by kernel_rfl) (Opens.string Try.underlying9)))))).iso (fun x => ⟨x.1, x.2.1, x.2.2.1, x.2.2.2⟩) (fun _ => rfl)
theorem op64 : Opens Try.prog 64 k64 wf64 := (Opens.struct Try.underlying64 (by kernel_rfl) (OpensF.cons rfl (by kernel_rfl) (Opens.int Try.underlying3) (OpensF.cons rfl (by kernel_rfl) (Opens.int Try.underlying3) (OpensF.cons rfl (by kernel_rfl) (Opens.int Try.underlying3) (OpensF.cons rfl (by kernel_rfl) (Opens.int Try.underlying3) (OpensF.cons rfl (by kernel_rfl) (Opens.int Try.underlying3) (OpensF.last rfl (by kernel_rfl) (Opens.int Try.underlying3)))))))).iso (fun x => ⟨x.1, x.2.1, x.2.2.1, x.2.2.2.1, x.2.2.2.2.1, x.2.2.2.2.2⟩) (fun _ => rfl)
theorem op66 : Opens Try.prog 66 k66 wf66 := (Opens.struct Try.underlying66 (by kernel_rfl) (OpensF.cons rfl (by kernel_rfl) (Opens.string Try.underlying9) (OpensF.cons rfl (by kernel_rfl) (Opens.int Try.underlying3) (OpensF.cons rfl (by kernel_rfl) (Opens.int Try.underlying3) (OpensF.last rfl (by kernel_rfl) op64))))).iso (fun x => ⟨x.1, x.2.1, x.2.2.1, x.2.2.2⟩) (fun _ => rfl)
theorem op68 : Opens Try.prog 68 k68 wf68 := (Opens.struct Try.underlying68 (by kernel_rfl) (OpensF.cons rfl (by kernel_rfl) (Opens.string Try.underlying9) (OpensF.cons rfl (by kernel_rfl) (Opens.int Try.underlying3) (OpensF.cons rfl (by kernel_rfl) (Opens.int Try.underlying3) (OpensF.last rfl (by kernel_rfl) op64))))).iso (fun x => ⟨x.1, x.2.1, x.2.2.1, x.2.2.2⟩) (fun _ => rfl)
theorem op36 : Opens Try.prog 36 k36 wf36 := (Opens.struct Try.underlying36 (by kernel_rfl) (OpensF.cons rfl (by kernel_rfl) (Opens.int Try.underlying3) (OpensF.cons rfl (by kernel_rfl) (Opens.slice Try.underlying33 (by kernel_rfl) op66) (OpensF.last rfl (by kernel_rfl) (Opens.slice Try.underlying34 (by kernel_rfl) op68))))).iso (fun x => ⟨x.1, x.2.1, x.2.2⟩) (fun _ => rfl)
end Go.Proofs.Ytopfjjdkffdjpaa.Q
end
section
-- PRINTED BY print.sh 35421559b90ae4d0a3588c463048766b98c2df88dd9212a6774a882060cdf62d: not written by this session
-- PRINTED WORDS (module Derived/Print/Sized.lean): go-gate-2's, for the rows of laws over slices: an AI agent of Go's test side, Tue Nov 17 2026; no person has read it. Lean checks it.
namespace Go.Proofs.YtopfjjdkffdjpaaW.PrintWords
open Go.ChangeShapes Go.WideShapes
end Go.Proofs.YtopfjjdkffdjpaaW.PrintWords
end
section
/- What is proved: the statement OccurrenceSplitsSaid: called with whatever arguments of its types, computus/computuslaw21.OccurrenceSplits returns true and leaves its arguments as0 they were. -/
namespace Go.Proofs.Ytopfjjdkffdjpaa.occurrenceSplits
open Go.ChangeShapes Go.WideShapes Go.ChangeAt Go.RowKit Go.Proofs.YtopfjjdkffdjpaaW.PrintWords Go.Proofs.Ytopfjjdkffdjpaa.Q
open Go.ChangeMaps (open_string shut_string)
theorem own : ownKnob Try.prog.godebug = none := by kernel_rfl
theorem laidOut : laidOutB Try.prog = true := by kernel_rfl
set_option maxRecDepth 100000 in
theorem lifted (os : Os) (started : os.Started) (H : Type) (enc : TypeId × Value → H) :
  ReturnsInHanded {} Try.checked os 5 .any (Rows.occurrenceSplitsSpec.pre6 enc Try.prog Try.f5 Rows.occurrenceSplitsRow.domain false) (Rows.occurrenceSplitsSpec.post enc Try.prog Try.f5 false true false false) := by
 refine returnsInHanded_of_change_sized (C := Try.checked) own started (by kernel_rfl) Try.func5
  (ChangeSpec.witness6 (enc := enc) (C := Try.checked) false ⟨#[], #[.agg #[.int .i64 0, .slice none 0 0, .slice none 0 0], .int .i64 0, .int .i64 0], []⟩ 8 (by kernel_rfl) (by kernel_rfl) (by kernel_rfl) (by kernel_rfl)) ?_
 intro W base args ds gs before hval0 hW hcnd hsz0 _
 have hsz : (DataW.weightsEach Try.prog (Try.f5.params.toList ++ Rows.occurrenceSplitsSpec.plain.varTypes Try.prog) (ds ++ gs)).all (· ≤ reachBytes) = true := hsz0
 have hval : ∀ (j : Nat) t v, Try.f5.params[j]? = some t → args[j]? = some v → Value.okWide Try.prog W .any base t v := hval0
 have hW' := hW
 obtain ⟨p, q, hA0, hV, rfl, hfz, hnd⟩ := hW
 have hA : DataW.TrodAll enc Try.prog W 0 (fun _ => true) true Try.f5.params.toList args.toList ds p := hA0
 rw [Try.params5] at hA hval hsz
 obtain ⟨v0, vs0, d0, ds0, p0, q0, hargs, rfl, rfl, h0, r0⟩ := trodAll_cons hA
 obtain ⟨v1, vs1, d1, ds1, p1, q1, rfl, rfl, rfl, h1, r1⟩ := trodAll_cons r0
 obtain ⟨v2, vs2, d2, ds2, p2, q2, rfl, rfl, rfl, h2, r2⟩ := trodAll_cons r1
 obtain ⟨rfl, rfl, rfl⟩ := trodAll_nil r2
 obtain rfl : args = #[v0, v1, v2] := by cases args; simp_all
 obtain ⟨rfl, rfl⟩ := trodVars_none hV
 have k0 := h0
 have lt0 : ∀ x ∈ p0, x.block < W.heap.size := by obtain ⟨m, hm⟩ := k0; exact DataW.trod_lt m _ _ _ hm
 obtain ⟨cs0, x0, rfl, hK0, hw0⟩ := open_struct Try.underlying36 op36 (hval 0 36 v0 rfl rfl) h0
 obtain ⟨A0_1, c0_1, A0_2, c0_2, rfl, hc0_1, hr0_1, hc0_2, hr0_2⟩ := k36_open hK0
 obtain ⟨a1, rfl, rfl, rfl, w1⟩ := open_int Try.underlying3 (hval 1 3 v1 rfl rfl) h1
 obtain ⟨a2, rfl, rfl, rfl, w2⟩ := open_int Try.underlying3 (hval 2 3 v2 rfl rfl) h2
 clear hA0 hval0 hsz0 hsz
 obtain ⟨k, hf⟩ := Pure.OccurrenceSplits x0.f0 x0.f1 x0.f2 a1 a2 hw0.1 hw0.2.1.1 hw0.2.1.2 hw0.2.2.1 hw0.2.2.2 w1 w2
 refine (Q.computuslaw21_OccurrenceSplits.calls (k := k) (w := W) (r := true) (hr0_1 := hr0_1) (hc0_1 := hc0_1) (hr0_2 := hr0_2) (hc0_2 := hc0_2) (h := hf)).mono fun e W' ⟨he, hd⟩ => ?_
 subst he
 have bel : Below W.heap.size W W' := hd
 exact ⟨_, rfl, _, _, _, [], _, [], hW', trodAll_mk1 (shut_bool Try.underlying4 _), (trodAll_cons_mk (Below.trod laidOut (by kernel_rfl) (of_decide_eq_true (by kernel_rfl)) k0 bel lt0) (trodAll_cons_mk (shut_int Try.underlying3 w1) (trodAll_cons_mk (shut_int Try.underlying3 w2) trodAll_mk0))), rfl, bel.frame _, fun h => by cases h⟩
theorem over : Rows.occurrenceSplitsRow.holds Try.pinned (OpenSpec.ofChange Rows.occurrenceSplitsSpec) :=
 OpenClaim.holds_of_wide 5 Try.f5 rfl rfl rfl rfl rfl rfl rfl ⟨rfl, rfl, rfl, rfl, rfl⟩ rfl rfl rfl rfl rfl (by kernel_rfl) Try.func5 (by kernel_rfl)
  (of_decide_eq_true (by kernel_rfl)) (by unfold Func.isWrapper; first | (rw [if_pos (by decide +kernel)]; kernel_rfl) | (rw [if_neg (by decide +kernel)]; exact ⟨rfl, rfl⟩))
  (fun os started H enc _ => lifted os started H enc)
theorem proved : Rows.OccurrenceSplitsSaid := over
#print axioms proved
end Go.Proofs.Ytopfjjdkffdjpaa.occurrenceSplits
namespace Go.Proofs.Ytopfjjdkffdjpaa
/-- The row, under a short name, for the claim. -/
theorem occurrenceSplits_holds : Rows.OccurrenceSplitsSaid := occurrenceSplits.proved
end Go.Proofs.Ytopfjjdkffdjpaa
end
