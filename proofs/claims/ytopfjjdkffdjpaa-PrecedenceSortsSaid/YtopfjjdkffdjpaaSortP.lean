/- What is proved: plain lists: stable insertion, merging, and what parts of a list do under exchanges. -/
import Derived.IntWalk
namespace Go.Proofs.Ytopfjjdkffdjpaa.Srt
set_option linter.unusedVariables false
set_option linter.unusedSimpArgs false

theorem rev_ind {α : Type} {P : List α → Prop} (nil : P []) (snoc : ∀ l x, P l → P (l ++ [x])) (l : List α) : P l := by
  have h : ∀ m : List α, P m.reverse := by
    intro m
    induction m with
    | nil => exact nil
    | cons x m ih => rw [List.reverse_cons]; exact snoc _ _ ih
  have := h l.reverse
  rwa [List.reverse_reverse] at this
section
variable {α : Type} (p : α → α → Bool)
/-- x before the first element that it precedes. -/
def ins (x : α) : List α → List α
  | [] => [x]
  | y :: ys => if p x y then x :: y :: ys else y :: ins x ys
def isort (l : List α) : List α := l.foldl (fun out x => ins p x out) []
/-- Two lists merged; of equals, the first list's come first. -/
def mrg : List α → List α → List α
  | [], bs => bs
  | a :: as, [] => a :: as
  | a :: as, b :: bs => if p b a then b :: mrg (a :: as) bs else a :: mrg as (b :: bs)
termination_by a b => a.length + b.length
theorem mrg_nil (as : List α) : mrg p as [] = as := by cases as <;> simp [mrg]
theorem nil_mrg (bs : List α) : mrg p [] bs = bs := by simp [mrg]
theorem mrg_cons (a b : α) (as bs : List α) : mrg p (a :: as) (b :: bs) = if p b a then b :: mrg p (a :: as) bs else a :: mrg p as (b :: bs) := by rw [mrg]
theorem mrg_one (x : α) : ∀ as : List α, mrg p as [x] = ins p x as
  | [] => by rw [nil_mrg]; rfl
  | a :: as => by
    rw [mrg_cons, ins]
    by_cases h : p x a = true
    · rw [if_pos h, if_pos h, mrg_nil]
    · rw [if_neg h, if_neg h, mrg_one x as]
theorem length_ins (x : α) : ∀ l : List α, (ins p x l).length = l.length + 1
  | [] => rfl
  | y :: ys => by
    rw [ins]
    split
    · rfl
    · rw [List.length_cons, length_ins x ys, List.length_cons]
theorem length_mrg : ∀ (as bs : List α), (mrg p as bs).length = as.length + bs.length
  | [], bs => by rw [nil_mrg]; simp
  | a :: as, [] => by rw [mrg_nil]; rfl
  | a :: as, b :: bs => by
    rw [mrg_cons]
    split
    · rw [List.length_cons, length_mrg (a :: as) bs]; simp only [List.length_cons]; omega
    · rw [List.length_cons, length_mrg as (b :: bs)]; simp only [List.length_cons]; omega
termination_by as bs => as.length + bs.length
theorem isort_snoc (l : List α) (x : α) : isort p (l ++ [x]) = ins p x (isort p l) := by unfold isort; rw [List.foldl_append]; rfl
theorem length_isort (l : List α) : (isort p l).length = l.length := by
  induction l using rev_ind with
  | nil => rfl
  | snoc l x ih => rw [isort_snoc, length_ins, ih]; simp
theorem mem_ins {x z : α} : ∀ {l : List α}, z ∈ ins p x l ↔ z = x ∨ z ∈ l
  | [] => by simp [ins]
  | y :: ys => by
    rw [ins]
    split
    · simp
    · rw [List.mem_cons, mem_ins (l := ys), List.mem_cons]
      constructor
      · rintro (h | h | h)
        · exact .inr (.inl h)
        · exact .inl h
        · exact .inr (.inr h)
      · rintro (h | h | h)
        · exact .inr (.inl h)
        · exact .inl h
        · exact .inr (.inr h)
theorem ins_perm (x : α) : ∀ l : List α, (ins p x l).Perm (x :: l)
  | [] => List.Perm.refl _
  | y :: ys => by
    rw [ins]
    split
    · exact List.Perm.refl _
    · exact ((ins_perm x ys).cons y).trans (List.Perm.swap x y ys)
theorem isort_perm (l : List α) : (isort p l).Perm l := by
  induction l using rev_ind with
  | nil => exact List.Perm.refl _
  | snoc l x ih =>
    rw [isort_snoc]
    exact (ins_perm p x _).trans ((ih.cons x).trans (List.perm_append_singleton x l).symm)

/-- A strict weak order. -/
structure Wo : Prop where
  asymm : ∀ x y, p x y = true → p y x = false
  neg : ∀ x y z, p x y = false → p y z = false → p x z = false
/-- No element precedes one before it. -/
def Srtd (l : List α) : Prop := l.Pairwise fun x y => p y x = false
variable {p} (W : Wo p)
include W
theorem Wo.trans {x y z : α} (h1 : p x y = true) (h2 : p y z = true) : p x z = true := by
  cases h : p x z with
  | true => rfl
  | false =>
    have h3 := W.asymm _ _ h2
    have h4 := W.neg x z y h h3
    rw [h4] at h1
    exact absurd h1 (by simp)
theorem ins_srtd (x : α) : ∀ {l : List α}, Srtd p l → Srtd p (ins p x l)
  | [], h => List.pairwise_singleton _ _
  | y :: ys, h => by
    unfold Srtd at h ⊢
    rw [List.pairwise_cons] at h
    rw [ins]
    split
    · rename_i hx
      rw [List.pairwise_cons]
      refine ⟨fun z hz => ?_, List.pairwise_cons.2 h⟩
      have hyx := W.asymm _ _ hx
      rcases List.mem_cons.1 hz with rfl | hz
      · exact hyx
      · exact W.neg _ _ _ (h.1 z hz) hyx
    · rename_i hx
      rw [List.pairwise_cons]
      refine ⟨fun z hz => ?_, ins_srtd x h.2⟩
      rcases (mem_ins p).1 hz with rfl | hz
      · simpa using hx
      · exact h.1 z hz
theorem isort_srtd (l : List α) : Srtd p (isort p l) := by
  induction l using rev_ind with
  | nil => exact List.Pairwise.nil
  | snoc l x ih => rw [isort_snoc]; exact ins_srtd W x ih
theorem ins_mrg (x : α) : ∀ (as bs : List α), ins p x (mrg p as bs) = mrg p as (ins p x bs)
  | [], bs => by rw [nil_mrg, nil_mrg]
  | a :: as, [] => by rw [mrg_nil, ← mrg_one]; rfl
  | a :: as, b :: bs => by
    rw [mrg_cons]
    by_cases h : p b a = true
    · rw [if_pos h]
      by_cases hx : p x b = true
      · have h1 := W.trans hx h
        rw [ins, if_pos hx, ins, if_pos hx, mrg_cons, if_pos h1, mrg_cons, if_pos h]
      · rw [ins, if_neg hx, ins_mrg x (a :: as) bs, ins, if_neg hx, mrg_cons, if_pos h]
    · rw [if_neg h]
      by_cases hx : p x a = true
      · have h1 : p x b = true := by
          cases h2 : p x b with
          | true => rfl
          | false =>
            have := W.neg x b a h2 (by simpa using h)
            rw [this] at hx
            exact absurd hx (by simp)
        rw [ins, if_pos hx, ins, if_pos h1, mrg_cons, if_pos hx, mrg_cons, if_neg h]
      · rw [ins, if_neg hx, ins_mrg x as (b :: bs)]
        rw [ins]
        split
        · rw [mrg_cons, if_neg hx]
        · rw [mrg_cons, if_neg h]
termination_by as bs => as.length + bs.length
theorem isort_append (as : List α) (bs : List α) : isort p (as ++ bs) = mrg p (isort p as) (isort p bs) := by
  induction bs using rev_ind with
  | nil => rw [List.append_nil]; exact (mrg_nil p _).symm
  | snoc bs x ih => rw [← List.append_assoc, isort_snoc, isort_snoc, ih, ins_mrg W]
omit W
/-- Two halves that can be merged apart. -/
theorem mrg_split : ∀ (A1 B1 A2 B2 : List α), (∀ a ∈ A1, ∀ b ∈ B2, p b a = false) → (∀ a ∈ A2, ∀ b ∈ B1, p b a = true) → mrg p (A1 ++ A2) (B1 ++ B2) = mrg p A1 B1 ++ mrg p A2 B2
  | [], [], A2, B2, _, _ => by rw [nil_mrg]; rfl
  | [], b :: bs, [], B2, _, _ => by rw [nil_mrg, List.nil_append, nil_mrg, nil_mrg]
  | [], b :: bs, a :: A2, B2, h1, h2 => by
    have ih := mrg_split [] bs (a :: A2) B2 h1 (fun a' ha' b' hb' => h2 a' ha' b' (by simp [hb']))
    rw [List.nil_append, List.cons_append, mrg_cons, if_pos (h2 a (by simp) b (by simp)), nil_mrg]
    rw [List.nil_append, nil_mrg] at ih
    rw [ih]
    rfl
  | a :: as, [], A2, [], _, _ => by rw [List.append_nil, mrg_nil, mrg_nil, mrg_nil]
  | a :: as, [], A2, b :: B2, h1, h2 => by
    have ih := mrg_split as [] A2 (b :: B2) (fun a' ha' => h1 a' (by simp [ha'])) h2
    rw [List.nil_append, List.cons_append, mrg_cons, if_neg (by rw [h1 a (by simp) b (by simp)]; simp), mrg_nil]
    rw [List.nil_append, mrg_nil] at ih
    rw [ih]
    rfl
  | a :: as, b :: bs, A2, B2, h1, h2 => by
    rw [List.cons_append, List.cons_append, mrg_cons, mrg_cons]
    split
    · rw [← List.cons_append, mrg_split (a :: as) bs A2 B2 h1 (fun a' ha' b' hb' => h2 a' ha' b' (by simp [hb']))]; rfl
    · rw [← List.cons_append (a := b), mrg_split as (b :: bs) A2 B2 (fun a' ha' => h1 a' (by simp [ha'])) h2]; rfl
termination_by A1 B1 => A1.length + B1.length
/-- Insertion at a known place. -/
theorem ins_at (x : α) : ∀ (A B : List α), (∀ y ∈ A, p x y = false) → (∀ y, B.head? = some y → p x y = true) → ins p x (A ++ B) = A ++ x :: B
  | [], [], _, _ => rfl
  | [], b :: bs, _, h => by rw [List.nil_append, ins, if_pos (h b rfl)]; rfl
  | a :: as, B, h1, h2 => by rw [List.cons_append, ins, if_neg (by rw [h1 a (by simp)]; simp), ins_at x as B (fun y hy => h1 y (by simp [hy])) h2]; rfl
theorem one_mrg (x : α) (A B : List α) (h1 : ∀ y ∈ A, p y x = true) (h2 : ∀ y ∈ B, p y x = false) : mrg p [x] (A ++ B) = A ++ x :: B := by
  have := mrg_split (p := p) [] A [x] B (fun a ha => by simp at ha) (fun a ha b hb => by simp at ha; subst ha; exact h1 b hb)
  rw [List.nil_append, nil_mrg] at this
  rw [this]
  congr 1
  cases B with
  | nil => rw [mrg_nil]
  | cons b bs => rw [mrg_cons, if_neg (by rw [h2 b (by simp)]; simp), nil_mrg]
end

/-! ### exchanges -/
section
variable {α : Type}
theorem snoc_cases (l : List α) : l = [] ∨ ∃ B y, l = B ++ [y] := by
  induction l using rev_ind with
  | nil => exact .inl rfl
  | snoc l x ih => exact .inr ⟨l, x, rfl⟩
theorem getD_mid (d : α) (U Z : List α) (x : α) : (U ++ x :: Z).getD U.length d = x := by
  rw [List.getD_eq_getElem?_getD, List.getElem?_append_right (by omega), Nat.sub_self]; rfl
def swp (d : α) (L : List α) (i k : Nat) : List α := (L.set i (L.getD k d)).set k (L.getD i d)
theorem length_swp (d : α) (L : List α) (i k : Nat) : (swp d L i k).length = L.length := by simp [swp]
theorem swp_two (d : α) (U V Z : List α) (x y : α) : swp d (U ++ x :: (V ++ y :: Z)) U.length (U.length + 1 + V.length) = U ++ y :: (V ++ x :: Z) := by
  unfold swp
  have e1 : (U ++ x :: (V ++ y :: Z)).getD (U.length + 1 + V.length) d = y := by
    rw [List.getD_eq_getElem?_getD, List.getElem?_append_right (by omega), show U.length + 1 + V.length - U.length = V.length + 1 by omega, List.getElem?_cons_succ, List.getElem?_append_right (by omega), Nat.sub_self]
    rfl
  have e2 : (U ++ x :: (V ++ y :: Z)).getD U.length d = x := by
    rw [List.getD_eq_getElem?_getD, List.getElem?_append_right (by omega), Nat.sub_self]
    rfl
  rw [e1, e2, List.set_append_right _ _ (by omega), Nat.sub_self, List.set_cons_zero, List.set_append_right _ _ (by omega), show U.length + 1 + V.length - U.length = V.length + 1 by omega, List.set_cons_succ, List.set_append_right _ _ (by omega), Nat.sub_self, List.set_cons_zero]
theorem swp_comm (d : α) (L : List α) (i k : Nat) (hi : i < L.length) (hk : k < L.length) : swp d L i k = swp d L k i := by
  unfold swp
  by_cases h : i = k
  · rw [h]
  · rw [List.set_comm _ _ h]
end

/-! ### blocks -/
section
variable {α : Type} (p : α → α → Bool)
/-- The blocks of n elements, each sorted. -/
def sB (n : Nat) (L : List α) : List α := if h : L.length ≤ n ∨ n = 0 then isort p L else isort p (L.take n) ++ sB n (L.drop n)
termination_by L.length
decreasing_by rw [List.length_drop]; omega
theorem sB_small {n : Nat} {L : List α} (h : L.length ≤ n) : sB p n L = isort p L := by rw [sB, dif_pos (.inl h)]
theorem sB_step {n : Nat} (hn : 0 < n) {L : List α} (h : n ≤ L.length) : sB p n L = isort p (L.take n) ++ sB p n (L.drop n) := by
  by_cases h2 : L.length ≤ n
  · rw [sB_small p h2, sB_small p (L := L.drop n) (by rw [List.length_drop]; omega), List.take_of_length_le (by omega), List.drop_of_length_le (by omega)]
    exact (List.append_nil _).symm
  · rw [sB, dif_neg (by omega)]
theorem length_sB {n : Nat} (hn : 0 < n) : ∀ (m : Nat) (L : List α), L.length ≤ m → (sB p n L).length = L.length
  | 0, L, h => by rw [sB_small p (by omega), length_isort]
  | m + 1, L, h => by
    by_cases h2 : n ≤ L.length
    · rw [sB_step p hn h2, List.length_append, length_isort, length_sB hn m (L.drop n) (by rw [List.length_drop]; omega), List.length_take, List.length_drop]
      omega
    · rw [sB_small p (by omega), length_isort]
end
end Go.Proofs.Ytopfjjdkffdjpaa.Srt
