/- What is proved: what the form reads as data of a type, the print's words read as a Lean value of that type's kind ('Opens'), for whole numbers, bools, strings, slices and structs. -/
import Derived.Deep.Slices
import Derived.WalkKit
import Derived.ProofKit
import Derived.OpenShut
import Derived.Test.YtkpicinbckedoaaWWords
set_option linter.unusedVariables false
set_option linter.unusedSimpArgs false
namespace Go.Proofs.Ytkpicinbckedoaa.Q
open Go.ChangeShapes Go.WideShapes Go.Proofs.YtkpicinbckedoaaW.PrintWords

/-- Whatever is read as data of type t is a value x of kind d, and Wf x. -/
def Opens {α : Type} (P : Program) (t : TypeId) (d : Kd α) (Wf : α → Prop) : Prop :=
  ∀ (H : Type) (enc : TypeId × Value → H) (w : World) (fuel : Nat) (cs : List Value) (y : DataW H × List MemPlace),
    DataW.trod enc P w 0 (fun _ => true) true fuel t cs = some y → ∃ x, d.K w x cs ∧ Wf x

theorem Opens.int {P : Program} {t : TypeId} {k : IntKind} (ht : P.underlying t = some (.int k)) : Opens P t (Kd.int k) (fun n => (Lit.int k n).wf = true) := by
  intro H enc w fuel cs y h
  obtain ⟨n, hc, _, hw⟩ := DataW.trod_int ht h
  exact ⟨n, hc, hw⟩

theorem Opens.bool {P : Program} {t : TypeId} (ht : P.underlying t = some .bool) : Opens P t Kd.bool (fun _ => True) := by
  intro H enc w fuel cs y h
  cases fuel with
  | zero => simp [DataW.trod] at h
  | succ n =>
    have hb : ∃ b, cs = [.bool b] := by
      unfold DataW.trod at h
      rw [ht] at h
      split at h <;> simp_all
    obtain ⟨b, rfl⟩ := hb
    exact ⟨b, rfl, trivial⟩

theorem Opens.string {P : Program} {t : TypeId} (ht : P.underlying t = some .string) : Opens P t Kd.string (fun s => s.size ≤ maxLen) := by
  intro H enc w fuel cs y h
  cases fuel with
  | zero => simp [DataW.trod] at h
  | succ n =>
    unfold DataW.trod at h
    rw [ht] at h
    split at h <;> simp_all
    obtain ⟨h1, _⟩ := h
    exact ⟨_, rfl, h1⟩

theorem mapM_range {β : Type} (f : Nat → Option β) : ∀ (n : Nat) (ys : List β), (List.range n).mapM f = some ys → ys.length = n ∧ ∀ i, i < n → f i = ys[i]? := by
  intro n
  induction n with
  | zero => intro ys h; simp at h; subst h; simp
  | succ n ih =>
    intro ys h
    rw [List.range_succ, List.mapM_append] at h
    simp only [Option.bind_eq_bind, Option.bind_eq_some_iff, List.mapM_cons, List.mapM_nil, Option.pure_def] at h
    obtain ⟨a, ha, b, ⟨c, hc, d, hd, hb⟩, he⟩ := h
    cases hd
    cases hb
    cases he
    obtain ⟨hl, hall⟩ := ih a ha
    refine ⟨by simp [hl], fun i hi => ?_⟩
    by_cases hin : i < n
    · rw [hall i hin, List.getElem?_append_left (by omega)]
    · obtain rfl : i = n := by omega
      rw [hc, List.getElem?_append_right (by omega), hl]
      simp

theorem cells?_at {w : World} {a : Addr} {n : Nat} {cs : List Value} (h : w.cells? 0 a n = some cs) : cs.length = n ∧ ∀ i u, cs[i]? = some u → w.cell? (a.add i) = some u := by
  unfold World.cells? at h
  rw [if_pos (Nat.zero_le _)] at h
  obtain ⟨hl, hall⟩ := mapM_range _ _ _ h
  refine ⟨hl, fun i u hu => ?_⟩
  have hi : i < n := by have := (List.getElem?_eq_some_iff.1 hu).1; omega
  rw [hall i hi, hu]

theorem Opens.slice {α : Type} {P : Program} {t e : TypeId} {d : Kd α} {Wf : α → Prop} (ht : P.underlying t = some (.slice e)) (he : P.cellsOf e = d.sz) (ho : Opens P e d Wf) : Opens P t (Kd.slice e d) (fun xs => xs.length ≤ maxLen ∧ ∀ x ∈ xs, Wf x) := by
  classical
  intro H enc w fuel cs y h
  rcases Go.Deep.open_slice ht h with ⟨rfl, _⟩ | ⟨a, len, cap, m, n, D, Pl, rfl, _, hl, hm, hmm, _, hel⟩
  · exact ⟨[], ⟨none, 0, rfl, Nat.le_refl _, rfl, Nat.zero_le _, fun h0 => absurd h0 (by simp)⟩, by simp [maxLen]⟩
  · have hx : ∀ i, i < len → ∃ x cs', cs'.length = d.sz ∧ (∀ j u, cs'[j]? = some u → w.cell? (a.add (i * d.sz + j)) = some u) ∧ d.K w x cs' ∧ Wf x := by
      intro i hi
      obtain ⟨cs', hc, htr⟩ := hel i (by rw [hmm]; simp; omega)
      rw [he] at hc
      obtain ⟨hcl, hcc⟩ := cells?_at hc
      obtain ⟨x, hK, hW⟩ := ho H enc w n cs' _ htr
      refine ⟨x, cs', hcl, fun j u hu => ?_, hK, hW⟩
      have := hcc j u hu
      rwa [Go.Deep.add_add] at this
    have hf : ∃ f : (i : Nat) → i < len → α, ∀ i (hi : i < len), ∃ cs', cs'.length = d.sz ∧ (∀ j u, cs'[j]? = some u → w.cell? (a.add (i * d.sz + j)) = some u) ∧ d.K w (f i hi) cs' ∧ Wf (f i hi) :=
      ⟨fun i hi => Classical.choose (hx i hi), fun i hi => Classical.choose_spec (hx i hi)⟩
    obtain ⟨f, hf⟩ := hf
    have hlen : (List.ofFn (fun i : Fin len => f i.1 i.2)).length = len := by simp
    refine ⟨List.ofFn (fun i : Fin len => f i.1 i.2), ⟨some a, cap, by rw [hlen], by rw [hlen]; exact hl, rfl, by rw [hlen]; unfold maxLen at hm; omega, fun _ => ⟨a, rfl, fun j p hj => ?_⟩⟩, by rw [hlen]; omega, fun x hxm => ?_⟩
    · have hjl : j < len := by have := (List.getElem?_eq_some_iff.1 hj).1; simpa using this
      rw [List.getElem?_eq_getElem (by simpa using hjl)] at hj
      simp at hj
      subst hj
      obtain ⟨cs', h1, h2, h3, h4⟩ := hf j hjl
      exact ⟨cs', h1, h3, h2⟩
    · obtain ⟨i, rfl⟩ := List.mem_ofFn.1 hxm
      exact (hf i.1 i.2).choose_spec.2.2.2

/-- The fields of a struct, from cell 'off' on. -/
def OpensF {α : Type} (P : Program) (off : Nat) (fs : List Field) (d : Kd α) (Wf : α → Prop) : Prop :=
  ∀ (H : Type) (enc : TypeId × Value → H) (w : World) (fuel : Nat) (cs : List Value) (ys : List (DataW H × List MemPlace)), cs.length = off + d.sz →
    (fs.mapM fun f => DataW.trod enc P w 0 (fun _ => true) true fuel f.type ((cs.drop f.offset).take (P.cellsOf f.type))) = some ys → ∃ x, d.K w x (cs.drop off) ∧ Wf x

theorem OpensF.last {α : Type} {P : Program} {off : Nat} {f : Field} {d : Kd α} {Wf : α → Prop} (hoff : f.offset = off) (hc : P.cellsOf f.type = d.sz) (h : Opens P f.type d Wf) : OpensF P off [f] d Wf := by
  intro H enc w fuel cs ys hl hm
  simp only [List.mapM_cons, List.mapM_nil, Option.bind_eq_bind, Option.bind_eq_some_iff] at hm
  obtain ⟨a, ha, _⟩ := hm
  rw [hoff, hc, List.take_of_length_le (by rw [List.length_drop]; omega)] at ha
  exact h H enc w fuel _ a ha

theorem OpensF.cons {α β : Type} {P : Program} {off : Nat} {f : Field} {fs : List Field} {d : Kd α} {d' : Kd β} {Wf : α → Prop} {Wf' : β → Prop} (hoff : f.offset = off) (hc : P.cellsOf f.type = d.sz) (h : Opens P f.type d Wf)
    (h' : OpensF P (off + d.sz) fs d' Wf') : OpensF P off (f :: fs) (Kd.pair d d') (fun x => Wf x.1 ∧ Wf' x.2) := by
  intro H enc w fuel cs ys hl hm
  have hsz : (Kd.pair d d').sz = d.sz + d'.sz := rfl
  rw [hsz] at hl
  simp only [List.mapM_cons, Option.bind_eq_bind, Option.bind_eq_some_iff] at hm
  obtain ⟨a, ha, b, hb, _⟩ := hm
  rw [hoff, hc] at ha
  obtain ⟨x, hx, hwx⟩ := h H enc w fuel _ a ha
  obtain ⟨x', hx', hwx'⟩ := h' H enc w fuel cs b (by omega) hb
  refine ⟨(x, x'), ⟨_, _, ?_, hx, hx'⟩, hwx, hwx'⟩
  rw [← List.drop_drop, List.take_append_drop]

theorem Opens.struct {α : Type} {P : Program} {t : TypeId} {fs : Array Field} {d : Kd α} {Wf : α → Prop} (ht : P.underlying t = some (.struct fs)) (hc : P.cellsOf t = d.sz) (h : OpensF P 0 fs.toList d Wf) : Opens P t d Wf := by
  intro H enc w fuel cs y hy
  cases fuel with
  | zero => simp [DataW.trod] at hy
  | succ n =>
    unfold DataW.trod at hy
    rw [ht] at hy
    simp only at hy
    split at hy
    · rename_i hl
      simp only [Option.map_eq_some_iff] at hy
      obtain ⟨ys, hys, _⟩ := hy
      have := h H enc w n cs ys (by omega) hys
      simpa using this
    · cases hy

theorem Opens.iso {α β : Type} {P : Program} {t : TypeId} {d : Kd α} {Wf : α → Prop} {f : β → α} (h : Opens P t d Wf) (g : α → β) (hg : ∀ x, f (g x) = x) : Opens P t (Kd.iso d f) (fun b => Wf (f b)) := by
  intro H enc w fuel cs y hy
  obtain ⟨x, hx, hw⟩ := h H enc w fuel cs y hy
  exact ⟨g x, by show d.K w (f (g x)) cs; rw [hg]; exact hx, by show Wf (f (g x)); rw [hg]; exact hw⟩

theorem Opens.imp {α : Type} {P : Program} {t : TypeId} {d : Kd α} {Wf Wf' : α → Prop} (h : Opens P t d Wf) (hw : ∀ x, Wf x → Wf' x) : Opens P t d Wf' := by
  intro H enc w fuel cs y hy
  obtain ⟨x, hx, hwx⟩ := h H enc w fuel cs y hy
  exact ⟨x, hx, hw _ hwx⟩

/-- A parameter that is a slice. -/
theorem open_row {H : Type} {enc : TypeId × Value → H} {α : Type} {P : Program} {w : World} {r : Reach} {b0 : Nat} {t e : TypeId} {d : Kd α} {Wf : List α → Prop} {v : Value} {y : DataW H} {p : List MemPlace} (ht : P.underlying t = some (.slice e)) (ho : Opens P t (Kd.slice e d) Wf)
    (hv : Value.okWide P w r b0 t v) (h : DataW.Trod enc P w 0 (fun _ => true) true t v y p) : ∃ (A : Option Addr) (c : Nat) (xs : List α), v = .slice A xs.length c ∧ xs.length ≤ c ∧ d.C w A xs.length xs ∧ Wf xs := by
  obtain ⟨a0, len, cap, rfl⟩ := okWide_slice ht hv
  obtain ⟨fuel, hf⟩ := h
  obtain ⟨xs, ⟨A, c, hc, hl, hC⟩, hW⟩ := ho H enc w fuel _ _ hf
  simp [Value.cells] at hc
  obtain ⟨rfl, rfl, rfl⟩ := hc
  exact ⟨_, _, xs, rfl, hl, hC, hW⟩

/-- A parameter that is a struct. -/
theorem open_struct {H : Type} {enc : TypeId × Value → H} {α : Type} {P : Program} {w : World} {r : Reach} {b0 : Nat} {t : TypeId} {fs : Array Field} {d : Kd α} {Wf : α → Prop} {v : Value} {y : DataW H} {p : List MemPlace} (ht : P.underlying t = some (.struct fs)) (ho : Opens P t d Wf)
    (hv : Value.okWide P w r b0 t v) (h : DataW.Trod enc P w 0 (fun _ => true) true t v y p) : ∃ (cs : List Value) (x : α), v = .agg cs.toArray ∧ d.K w x cs ∧ Wf x := by
  obtain ⟨cs, rfl, hsz⟩ := okWide_struct ht hv
  obtain ⟨fuel, hf⟩ := h
  obtain ⟨x, hK, hW⟩ := ho H enc w fuel _ _ hf
  exact ⟨cs.toList, x, by simp, hK, hW⟩
end Go.Proofs.Ytkpicinbckedoaa.Q
