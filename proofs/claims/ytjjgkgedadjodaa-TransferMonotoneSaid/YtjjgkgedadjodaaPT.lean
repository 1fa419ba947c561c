/- What is proved: plain facts of transfer_Assign.f and of the reference's Assign: the two tell the same moves, in the order of the feasts, each to the first day that is free and not taken. -/
import Derived.Test.YtjjgkgedadjodaaQx9
import Derived.Test.YtjjgkgedadjodaaQx8
import Derived.Test.YtjjgkgedadjodaaQx7
import Derived.Test.YtjjgkgedadjodaaQx4
import Derived.Test.YtjjgkgedadjodaaQx3
import Derived.Test.YtjjgkgedadjodaaHAssign
namespace Go.Proofs.Ytjjgkgedadjodaa.Q
open Go.RowKit Go.Proofs.YtjjgkgedadjodaaW.PrintWords Go.Proofs.YtjjgkgedadjodaaW.PrintLast
set_option linter.unusedVariables false
set_option linter.unusedSimpArgs false

theorem wN (d : Nat) (h : d < 4611686018427387904) : wrap64 ((d : Int) + 1) = ((d + 1 : Nat) : Int) := by unfold wrap64; omega
theorem Ev.ret {α : Type} {g : Nat → Option α} {r : α} (h : ∀ k, g (k + 1) = some r) : Ev g r := ⟨1, fun n hn => by obtain ⟨m, rfl⟩ : ∃ m, n = m + 1 := ⟨n - 1, by omega⟩; exact h m⟩

theorem awake_ev : Ev (fun k => computuslaw22_awake.f k) true := Ev.of computuslaw22_awake.mono (k := 30) (by kernel_rfl)

/-- What Few says. -/
theorem few_l0 (l1 : List (List Int)) (h4 : l1.length ≤ 400) : ∀ (n i s : Nat), i + n = l1.length → s ≤ 100 * i →
    ∃ b, Ev (fun k => computusref22_Few.l0 k l1 (s : Int) (i : Int)) b ∧ (b = true → s + (l1.drop i).flatten.length ≤ 400) := by
  intro n
  induction n with
  | zero =>
    intro i s hi hs
    refine ⟨decide ((s : Int) ≤ 400), Ev.ret fun k => ?_, ?_⟩
    · simp only [computusref22_Few.l0]; rw [if_neg (by omega)]
    · rw [List.drop_of_length_le (by omega)]; simp; omega
  | succ n ih =>
    intro i s hi hs
    have hlt : i < l1.length := by omega
    have hd : l1.drop i = l1[i] :: l1.drop (i + 1) := List.drop_eq_getElem_cons hlt
    have hr : rd_L3 l1 (i : Int) = l1[i] := by simp [rd_L3, List.getD, hlt]
    rw [hd]
    simp only [List.flatten_cons, List.length_append]
    by_cases h1 : l1[i].length ≤ 100
    · obtain ⟨b, he, hb2⟩ := ih (i + 1) (s + l1[i].length) (by omega) (by omega)
      refine ⟨b, Ev.step (fun k => ?_) he, fun h => by have := hb2 h; omega⟩
      simp only [computusref22_Few.l0]
      rw [if_pos (by omega), if_pos (by omega), hr, if_neg (by omega), wN i (by omega), show wrap64 ((s : Int) + (l1[i].length : Int)) = ((s + l1[i].length : Nat) : Int) by unfold wrap64; omega]
    · refine ⟨false, Ev.ret fun k => ?_, by simp⟩
      simp only [computusref22_Few.l0]
      rw [if_pos (by omega), if_pos (by omega), hr, if_pos (by omega)]

theorem few_ev (l0 : List Bool) (l1 : List (List Int)) : ∃ b, Ev (fun k => computusref22_Few.f k l0 l1) b ∧ (b = true → l0.length ≤ 400 ∧ l1.length ≤ 400 ∧ l1.flatten.length ≤ 400) := by
  by_cases h0 : l0.length ≤ 400
  · by_cases h1 : l1.length ≤ 400
    · obtain ⟨b, he, hb⟩ := few_l0 l1 h1 l1.length 0 0 (by omega) (by omega)
      refine ⟨b, Ev.congr (fun k => ?_) (Ev.step (g := fun k => computusref22_Few.j0 k l1 false) (fun k => ?_) he), fun h => ⟨h0, h1, by have := hb h; simpa using this⟩⟩
      · simp only [computusref22_Few.f]; rw [if_neg (by omega), decide_eq_false (by omega)]
      · simp [computusref22_Few.j0]
    · refine ⟨false, Ev.congr (fun k => ?_) (Ev.ret (g := fun k => computusref22_Few.j0 k l1 true) (fun k => ?_)), by simp⟩
      · simp only [computusref22_Few.f]; rw [if_neg (by omega), decide_eq_true (by omega)]
      · simp [computusref22_Few.j0]
  · refine ⟨false, Ev.congr (fun k => ?_) (Ev.ret (g := fun k => computusref22_Few.j0 k l1 true) (fun k => ?_)), by simp⟩
    · simp only [computusref22_Few.f]; rw [if_pos (by omega)]
    · simp [computusref22_Few.j0]

/-- What is left of the free days. -/
def LeftOf (left l0 : List Bool) (taken : List Int) : Prop := left.length = l0.length ∧ ∀ d : Nat, left.getD d false = (l0.getD d false && !decide ((d : Int) ∈ taken))
theorem LeftOf.start (l0 : List Bool) : LeftOf l0 l0 [] := ⟨rfl, fun d => by simp⟩
theorem LeftOf.take {left l0 : List Bool} {taken : List Int} (h : LeftOf left l0 taken) (d : Nat) : LeftOf (left.set d false) l0 ((d : Int) :: taken) := by
  refine ⟨by simp [h.1], fun e => ?_⟩
  have h2 := h.2 e
  simp only [List.getD_eq_getElem?_getD] at h2 ⊢
  by_cases he : e = d
  · subst he
    by_cases hl : e < left.length
    · simp [hl]
    · simp [hl]
  · rw [List.getElem?_set_ne (by omega), h2]
    have : ¬ ((e : Int) = (d : Int)) := by omega
    simp [this]

def mvs (l : List S36) : List S39 := l.map fun m => ⟨m.f0, m.f1, m.f2⟩
def mvEnd (x : Option (List S36)) : List S39 × Int := match x with
  | none => ([], 5)
  | some out => (mvs out, 0)

theorem seek_some {free : List Bool} {taken : List Int} : ∀ {n d d' : Nat}, transfer_seek free taken n d = some d' → d ≤ d' ∧ d' < d + n ∧ free.getD d' false = true ∧ ¬ ((d' : Int) ∈ taken) ∧ ∀ e, d ≤ e → e < d' → free.getD e false = true → (e : Int) ∈ taken := by
  intro n
  induction n with
  | zero => intro d d' h; simp [transfer_seek] at h
  | succ n ih =>
    intro d d' h
    unfold transfer_seek at h
    split at h
    · rename_i hc
      cases h
      exact ⟨Nat.le_refl _, by omega, hc.1, hc.2, fun e h1 h2 => by omega⟩
    · rename_i hc
      obtain ⟨h1, h2, h3, h4, h5⟩ := ih h
      refine ⟨by omega, by omega, h3, h4, fun e he1 he2 hf => ?_⟩
      by_cases hed : e = d
      · subst hed
        exact Classical.not_not.1 fun hn => hc ⟨hf, hn⟩
      · exact h5 e (by omega) he2 hf

theorem rdB (l : List Bool) (d : Nat) : rdOf false l (d : Int) = l.getD d false := by simp [rdOf]

section
variable (l1 : List (List Int)) (hl1 : l1.length ≤ 400)
include hl1
omit hl1 in
theorem ref_l2 (i j : Nat) (fs : List Int) (f : Int) (out : List S36) (l0 left : List Bool) (taken : List Int) (hi : i < l1.length) (hfs : rd_L3 l1 (i : Int) = fs) (hj : j < fs.length) (hf : rd fs (j : Int) = f) (hm : fs.length ≤ 1000000) (ho : out.length ≤ 1000000) (hL : LeftOf left l0 taken) (hl0 : l0.length ≤ 400) :
    ∀ (n d : Nat), d + n = l0.length → (∀ d', transfer_seek l0 taken n d = some d' → ∀ r, Ev (fun k => computusref22_Assign.l1 k l1 (left.set d' false) (mvs (out ++ [⟨f, (i : Int), (d' : Int)⟩])) (i : Int) ((j + 1 : Nat) : Int)) r → Ev (fun k => computusref22_Assign.l2 k l1 left (mvs out) (i : Int) (j : Int) (d : Int)) r) ∧
      (transfer_seek l0 taken n d = none → Ev (fun k => computusref22_Assign.l2 k l1 left (mvs out) (i : Int) (j : Int) (d : Int)) ([], 5)) := by
  intro n
  induction n with
  | zero =>
    intro d hd
    refine ⟨fun d' h => by simp [transfer_seek] at h, fun _ => Ev.ret fun k => ?_⟩
    simp only [computusref22_Assign.l2]
    rw [if_neg (by rw [hL.1]; omega), if_pos (by rw [hL.1]; omega)]
  | succ n ih =>
    intro d hd
    have hlen := hL.1
    obtain ⟨ih1, ih2⟩ := ih (d + 1) (by omega)
    have h2 := hL.2 d
    by_cases hc : l0.getD d false = true ∧ ¬ ((d : Int) ∈ taken)
    · have ht : left.getD d false = true := by rw [h2, hc.1]; simp [hc.2]
      refine ⟨fun d' h r hr => ?_, fun h => ?_⟩
      · unfold transfer_seek at h
        rw [if_pos hc] at h
        cases h
        refine Ev.step (fun k => ?_) hr
        simp only [computusref22_Assign.l2]
        rw [if_pos (by omega), if_pos (by omega), rdB, if_pos ht, if_neg (by omega), if_pos (by omega), if_pos (by omega), if_pos (by omega), hfs, if_pos (by omega), if_pos (by simp [mvs]; omega), wN j (by omega), hf]
        simp [mvs]
      · unfold transfer_seek at h
        rw [if_pos hc] at h
        cases h
    · have ht : ¬ (left.getD d false = true) := by
        rw [h2]
        simp only [Bool.and_eq_true, Bool.not_eq_true', decide_eq_false_iff_not]
        exact hc
      have hstep : ∀ k, computusref22_Assign.l2 (k + 1) l1 left (mvs out) (i : Int) (j : Int) (d : Int) = computusref22_Assign.l2 k l1 left (mvs out) (i : Int) (j : Int) ((d + 1 : Nat) : Int) := by
        intro k
        simp only [computusref22_Assign.l2]
        rw [if_pos (by omega), if_pos (by omega), rdB, if_neg ht, wN d (by omega)]
      refine ⟨fun d' h r hr => ?_, fun h => ?_⟩
      · unfold transfer_seek at h
        rw [if_neg hc] at h
        exact Ev.step hstep (ih1 d' h r hr)
      · unfold transfer_seek at h
        rw [if_neg hc] at h
        exact Ev.step hstep (ih2 h)

theorem ref_l1 (i : Nat) (fs : List Int) (l0 : List Bool) (hi : i < l1.length) (hfs : rd_L3 l1 (i : Int) = fs) (hl0 : l0.length ≤ 400) (heq : l0.length = l1.length) (rest : List Bool → List Int → List S36 → Option (List S36)) (hm : fs.length ≤ 1000000)
    (hrest : ∀ left taken out, LeftOf left l0 taken → out.length + (l1.drop (i + 1)).flatten.length ≤ 1000000 → Ev (fun k => computusref22_Assign.l0 k l1 left (mvs out) ((i + 1 : Nat) : Int)) (mvEnd (transfer_days l0 (i + 1) (l1.drop (i + 1)) taken out))) :
    ∀ (n j : Nat) (left : List Bool) (taken : List Int) (out : List S36), j + n = fs.length → LeftOf left l0 taken → out.length + (n + (l1.drop (i + 1)).flatten.length) ≤ 1000000 →
      Ev (fun k => computusref22_Assign.l1 k l1 left (mvs out) (i : Int) (j : Int)) (mvEnd ((transfer_feasts l0 i (fs.drop j) taken out).bind fun p => transfer_days l0 (i + 1) (l1.drop (i + 1)) p.1 p.2)) := by
  intro n
  induction n with
  | zero =>
    intro j left taken out hj hL ho
    rw [List.drop_of_length_le (by omega)]
    refine Ev.step (fun k => ?_) (hrest left taken out hL (by omega))
    simp only [computusref22_Assign.l1]
    rw [if_pos (by omega), if_pos (by omega), hfs, if_neg (by omega), wN i (by omega)]
  | succ n ih =>
    intro j left taken out hj hL ho
    have hjl : j < fs.length := by omega
    have hd : fs.drop j = fs[j] :: fs.drop (j + 1) := List.drop_eq_getElem_cons hjl
    have hr : rd fs (j : Int) = fs[j] := by simp [rd, List.getD, hjl]
    obtain ⟨h1, h2⟩ := ref_l2 l1 i j fs fs[j] out l0 left taken hi hfs hjl hr hm (by omega) hL hl0 (l0.length - (i + 1)) (i + 1) (by omega)
    have hstep : ∀ k, computusref22_Assign.l1 (k + 1) l1 left (mvs out) (i : Int) (j : Int) = computusref22_Assign.l2 k l1 left (mvs out) (i : Int) (j : Int) ((i + 1 : Nat) : Int) := by
      intro k
      simp only [computusref22_Assign.l1]
      rw [if_pos (by omega), if_pos (by omega), hfs, if_pos (by omega), wN i (by omega)]
    rw [hd]
    unfold transfer_feasts
    cases hs : transfer_seek l0 taken (l0.length - (i + 1)) (i + 1) with
    | none => exact Ev.step hstep (h2 hs)
    | some d' => exact Ev.step hstep (h1 d' hs _ (ih (j + 1) _ _ _ (by omega) (hL.take d') (by simp only [List.length_append, List.length_cons, List.length_nil]; omega)))

theorem ref_l0 (l0 : List Bool) (hl0 : l0.length ≤ 400) (heq : l0.length = l1.length) (hm : l1.flatten.length ≤ 400) :
    ∀ (n i : Nat) (left : List Bool) (taken : List Int) (out : List S36), i + n = l1.length → LeftOf left l0 taken → out.length + (l1.drop i).flatten.length ≤ 1000000 →
      Ev (fun k => computusref22_Assign.l0 k l1 left (mvs out) (i : Int)) (mvEnd (transfer_days l0 i (l1.drop i) taken out)) := by
  intro n
  induction n with
  | zero =>
    intro i left taken out hi hL ho
    rw [List.drop_of_length_le (by omega)]
    refine Ev.ret fun k => ?_
    simp only [computusref22_Assign.l0]
    rw [if_neg (by omega)]
    rfl
  | succ n ih =>
    intro i left taken out hi hL ho
    have hil : i < l1.length := by omega
    have hd : l1.drop i = l1[i] :: l1.drop (i + 1) := List.drop_eq_getElem_cons hil
    have hr : rd_L3 l1 (i : Int) = l1[i] := by simp [rd_L3, List.getD, hil]
    rw [hd] at ho ⊢
    simp only [List.flatten_cons, List.length_append] at ho
    unfold transfer_days
    refine Ev.step (fun k => ?_) (ref_l1 l1 hl1 i l1[i] l0 hil hr hl0 heq (fun _ _ _ => none) (by omega) (fun left taken out hL ho => ih (i + 1) left taken out (by omega) hL ho) l1[i].length 0 left taken out (by omega) hL (by omega))
    simp only [computusref22_Assign.l0]
    rw [if_pos (by omega)]
    rfl
end

theorem feasts_len (free : List Bool) (day : Nat) : ∀ (fs : List Int) (taken : List Int) (out : List S36) p, transfer_feasts free day fs taken out = some p → p.2.length = out.length + fs.length
  | [], taken, out, p, h => by simp [transfer_feasts] at h; subst h; simp
  | f :: fs, taken, out, p, h => by
    simp only [transfer_feasts, Option.bind_eq_some_iff] at h
    obtain ⟨d, _, h⟩ := h
    have := feasts_len free day fs _ _ p h
    simp at this ⊢; omega
theorem days_len (free : List Bool) : ∀ (l : List (List Int)) (day : Nat) (taken : List Int) (out : List S36) r, transfer_days free day l taken out = some r → r.length = out.length + l.flatten.length
  | [], day, taken, out, r, h => by simp [transfer_days] at h; subst h; simp
  | fs :: l, day, taken, out, r, h => by
    simp only [transfer_days, Option.bind_eq_some_iff] at h
    obtain ⟨p, hp, h⟩ := h
    have h1 := feasts_len free day fs _ _ p hp
    have h2 := days_len free l (day + 1) _ _ r h
    rw [List.flatten_cons, List.length_append]; omega

/-- The reference's Assign. -/
theorem ref_assign (l0 : List Bool) (l1 : List (List Int)) (h0 : l0.length ≤ 400) (h1 : l1.length ≤ 400) (h2 : l1.flatten.length ≤ 400) :
    ∃ out e, transfer_Assign.f l0 l1 = some (out, e) ∧ Ev (fun k => computusref22_Assign.f k l0 l1) (mvs out, e) ∧ out.length ≤ 400 ∧ (e ≠ 0 → out = []) ∧ (e = 0 → l0.length = l1.length ∧ transfer_days l0 0 l1 [] [] = some out) := by
  by_cases heq : l0.length = l1.length
  · have hev := ref_l0 l1 h1 l0 h0 heq h2 l1.length 0 l0 [] [] (by omega) (LeftOf.start l0) (by simpa using (by omega : l1.flatten.length ≤ 1000000))
    rw [List.drop_zero] at hev
    have hf : ∀ k, computusref22_Assign.f k l0 l1 = computusref22_Assign.l0 k l1 l0 (mvs []) ((0 : Nat) : Int) := by
      intro k
      simp only [computusref22_Assign.f, Option.bind_some, List.nil_append, List.length_nil]
      rw [if_pos (by omega), if_pos (by omega)]
      rfl
    cases hd : transfer_days l0 0 l1 [] [] with
    | none =>
      rw [hd] at hev
      refine ⟨[], 5, ?_, Ev.congr hf hev, by simp, fun _ => rfl, fun h => absurd h (by decide)⟩
      unfold transfer_Assign.f
      rw [if_pos heq, if_pos (by omega), hd]
      rfl
    | some out =>
      rw [hd] at hev
      have hl := days_len _ _ _ _ _ _ hd
      refine ⟨out, 0, ?_, Ev.congr hf hev, by simp only [List.length_nil] at hl; omega, fun h => absurd rfl h, fun _ => ⟨heq, rfl⟩⟩
      unfold transfer_Assign.f
      rw [if_pos heq, if_pos (by omega), hd]
      rfl
  · refine ⟨[], 3, ?_, Ev.congr (f := fun _ => some ([], 3)) (fun k => ?_) (Ev.now _), by simp, fun _ => rfl, fun h => absurd h (by decide)⟩
    · unfold transfer_Assign.f; rw [if_neg heq]
    · simp only [computusref22_Assign.f]
      rw [if_neg (by omega)]

/-! ### The moves -/
/-- In a list of moves behind n elder ones: each is to the first free day behind its own that is not taken. -/
def MoveOk (free : List Bool) (elder : List S36) (m : S36) : Prop :=
  0 ≤ m.f1 ∧ m.f1 < m.f2 ∧ m.f2 < (free.length : Int) ∧ free.getD m.f2.toNat false = true ∧ (∀ x ∈ elder, x.f2 ≠ m.f2) ∧ ∀ e : Int, m.f1 < e → e < m.f2 → free.getD e.toNat false = true → ∃ x ∈ elder, x.f2 = e

def AllOk (free : List Bool) (l : List S36) : Prop := ∀ i (h : i < l.length), MoveOk free (l.take i) l[i]

theorem AllOk.snoc {free : List Bool} {l : List S36} {m : S36} (h : AllOk free l) (hm : MoveOk free l m) : AllOk free (l ++ [m]) := by
  intro i hi
  by_cases hl : i < l.length
  · rw [List.getElem_append_left hl, List.take_append_of_le_length (by omega)]
    exact h i hl
  · have : i = l.length := by simp at hi; omega
    subst this
    simpa using hm

theorem feasts_ok (free : List Bool) (day : Nat) (hday : day < free.length) : ∀ (fs : List Int) (taken : List Int) (out : List S36) p, (∀ x, x ∈ taken ↔ ∃ m ∈ out, m.f2 = x) → AllOk free out → transfer_feasts free day fs taken out = some p →
    (∀ x, x ∈ p.1 ↔ ∃ m ∈ p.2, m.f2 = x) ∧ AllOk free p.2 ∧ p.2.map (fun m => (m.f1, m.f0)) = out.map (fun m => (m.f1, m.f0)) ++ fs.map (fun f => ((day : Int), f))
  | [], taken, out, p, ht, ha, h => by simp [transfer_feasts] at h; subst h; exact ⟨ht, ha, by simp⟩
  | f :: fs, taken, out, p, ht, ha, h => by
    simp only [transfer_feasts, Option.bind_eq_some_iff] at h
    obtain ⟨d, hd, h⟩ := h
    obtain ⟨s1, s2, s3, s4, s5⟩ := seek_some hd
    have hok : MoveOk free out ⟨f, (day : Int), (d : Int)⟩ := by
      refine ⟨by simp, by simp; omega, by simp; omega, by simpa using s3, fun x hx he => s4 ((ht _).2 ⟨x, hx, he⟩), fun e h1 h2 h3 => ?_⟩
      simp only at h1 h2
      obtain ⟨e', rfl⟩ := Int.eq_ofNat_of_zero_le (show 0 ≤ e by omega)
      exact (ht _).1 (s5 e' (by omega) (by omega) (by simpa using h3))
    obtain ⟨r1, r2, r3⟩ := feasts_ok free day hday fs _ _ p (fun x => by
      rw [List.mem_cons, ht x]
      constructor
      · rintro (rfl | ⟨m, hm, he⟩)
        · exact ⟨_, List.mem_append_right _ List.mem_cons_self, rfl⟩
        · exact ⟨m, List.mem_append_left _ hm, he⟩
      · rintro ⟨m, hm, he⟩
        rcases List.mem_append.1 hm with hm | hm
        · exact .inr ⟨m, hm, he⟩
        · simp at hm; subst hm; exact .inl he.symm) (ha.snoc hok) h
    exact ⟨r1, r2, by rw [r3]; simp⟩

theorem days_ok (free : List Bool) : ∀ (l : List (List Int)) (day : Nat) (taken : List Int) (out : List S36) r, day + l.length ≤ free.length → (∀ x, x ∈ taken ↔ ∃ m ∈ out, m.f2 = x) → AllOk free out → transfer_days free day l taken out = some r →
    AllOk free r ∧ r.map (fun m => (m.f1, m.f0)) = out.map (fun m => (m.f1, m.f0)) ++ (l.zipIdx day).flatMap (fun p => p.1.map (fun f => ((p.2 : Int), f)))
  | [], day, taken, out, r, hl, ht, ha, h => by simp [transfer_days] at h; subst h; exact ⟨ha, by simp⟩
  | fs :: l, day, taken, out, r, hl, ht, ha, h => by
    simp only [transfer_days, Option.bind_eq_some_iff] at h
    obtain ⟨p, hp, h⟩ := h
    simp only [List.length_cons] at hl
    obtain ⟨h1, h2, h3⟩ := feasts_ok free day (by omega) fs _ _ p ht ha hp
    obtain ⟨r1, r2⟩ := days_ok free l (day + 1) _ _ r (by omega) h1 h2 h
    exact ⟨r1, by rw [r2, h3]; simp [List.zipIdx_cons]⟩
end Go.Proofs.Ytjjgkgedadjodaa.Q
