/- What is proved: a map literal that the call makes: its insertions, and a look-up in it. -/
import Derived.Test.YtepmkfbhkifjaaaDoorProg
import Derived.Maps.Keyed
import Derived.Maps.OwnOps
import Derived.WideMake
import Derived.WalkKit
namespace Go.Proofs.YtepmkfbhkifjaaaDoor.Q
open Go.RowKit
set_option linter.unusedVariables false
set_option linter.unusedSimpArgs false

section
variable {P : Program} {t kt et : TypeId}
theorem map_get (w : World) (o : Obj) : (w.alloc o).heap[w.heap.size]? = some o := by
  show (w.heap.push o)[w.heap.size]? = some o
  simp
theorem map_set (w : World) (o o' : Obj) : ({ w.alloc o with heap := (w.alloc o).heap.setIfInBounds w.heap.size o' } : World) = w.alloc o' := by
  show ({ w with heap := (w.heap.push o).setIfInBounds w.heap.size o' } : World) = { w with heap := w.heap.push o' }
  congr 1
  apply Array.ext_getElem?
  intro i
  rw [Array.getElem?_setIfInBounds, Array.getElem?_push, Array.getElem?_push]
  by_cases h : w.heap.size = i
  · subst h; simp
  · rw [if_neg h]
    rw [if_neg (fun e => h e.symm), if_neg (fun e => h e.symm)]
/-- An insertion of a key that is not there. -/
theorem run_ins (K : Maps.Keyed P kt) (hT : P.underlying t = some (.map kt et)) (w : World) (es : Array MapEntry) (c : Nat) (x v : Value) {lx : Lit} (hx : keyOf P kt x = some lx) (hes : ∀ e ∈ es.toList, ∃ l, keyOf P kt e.key = some l) (hn : ∀ e ∈ es.toList, e.key ≠ x) :
    (Instr.mapUpdate t (.map (some w.heap.size)) x v).run P (w.alloc (.map es c)) = .ok () (w.alloc (.map (es.push { key := x, val := v, born := c }) (c + 1))) := by
  have hf : (Instr.findKey kt x es.toList).run P (w.alloc (.map es c)) = .ok none (w.alloc (.map es c)) := by
    rcases K.find (w.alloc (.map es c)) hx es.toList hes with h | ⟨j, e, h1, h2, h3⟩
    · exact h.1
    · exact absurd h3 (hn e (List.mem_of_getElem? h2))
  have hg := map_get w (.map es c)
  have h2 : (Instr.mapUpdate t (.map (some w.heap.size)) x v).run P (w.alloc (.map es c)) = .ok () ({ w.alloc (.map es c) with heap := (w.alloc (.map es c)).heap.setIfInBounds w.heap.size (.map (es.push { key := x, val := v, born := c }) (c + 1)) } : World) := by
    generalize hW : w.alloc (.map es c) = W at hg hf ⊢
    simp [Instr.mapUpdate, run_underlying hT, MapKept.run_getObj_map hg, K.check W false hx, hf, MapKept.run_setObj_map _ hg, Result.andThen]
  rw [h2, map_set]
/-- A look-up of a key that is there. -/
theorem run_hit (K : Maps.Keyed P kt) (hT : P.underlying t = some (.map kt et)) {w : World} {b : Nat} {es : Array MapEntry} {c : Nat} (hg : w.heap[b]? = some (.map es c)) (x v : Value) {lx : Lit} (hx : keyOf P kt x = some lx) (hes : ∀ e ∈ es.toList, ∃ l, keyOf P kt e.key = some l) (hv : ∀ e ∈ es.toList, e.key = x → e.val = v) (hin : ∃ e ∈ es.toList, e.key = x) :
    (Instr.lookup t (.map (some b)) x true).run P w = .ok (.tuple #[v, .bool true]) w := by
  have hf : ∃ j, (Instr.findKey kt x es.toList).run P w = .ok (some (j, v)) w := by
    rcases K.find w hx es.toList hes with h | ⟨j, e, h1, h2, h3⟩
    · obtain ⟨e, h4, h5⟩ := hin
      exact absurd h5 (h.2 e h4)
    · exact ⟨j, by rw [h1, hv e (List.mem_of_getElem? h2) h3]⟩
  obtain ⟨j, hf⟩ := hf
  simp [Instr.lookup, run_underlying hT, MapKept.run_getObj_map hg, K.check w _ hx, hf, Result.andThen]
/-- A look-up of a key that is not there. -/
theorem run_miss (K : Maps.Keyed P kt) (hT : P.underlying t = some (.map kt et)) {w : World} {b : Nat} {es : Array MapEntry} {c : Nat} (hg : w.heap[b]? = some (.map es c)) (x z : Value) {lx : Lit} (hx : keyOf P kt x = some lx) (hes : ∀ e ∈ es.toList, ∃ l, keyOf P kt e.key = some l) (hn : ∀ e ∈ es.toList, e.key ≠ x) (hz : (zeroValue et).run P w = .ok z w) :
    (Instr.lookup t (.map (some b)) x true).run P w = .ok (.tuple #[z, .bool false]) w := by
  have hf : (Instr.findKey kt x es.toList).run P w = .ok none w := by
    rcases K.find w hx es.toList hes with h | ⟨j, e, h1, h2, h3⟩
    · exact h.1
    · exact absurd h3 (hn e (List.mem_of_getElem? h2))
  simp [Instr.lookup, run_underlying hT, MapKept.run_getObj_map hg, K.check w _ hx, hf, Result.andThen, hz]
end
end Go.Proofs.YtepmkfbhkifjaaaDoor.Q
