/- What is proved: what the statement CattextOffsetsSaid needs, part 8 of 11; the last part proves the statement. No condition. -/
import Derived.Test.YtlfokdbnbmebiaaDoorZCOs6
import Derived.Maps.Keyed
import Derived.Maps.OwnOps
import Derived.WideMake
import Derived.LoopTactic
import Derived.Deep.Slices
import Derived.ProofKit
import Derived.OpenShut
import Derived.SizedLaws
import Derived.ChangeSlices
import Derived.Shelf.Strings.Builder1
import Derived.Shelf.Strings.Builder2
import Derived.Shelf.Strings.OnBuilder
import Derived.Shelf.Strconv.Itoa0
import Derived.Shelf.Strconv.Itoa1
import Derived.Shelf.LaysM
import Derived.Shelf.Strconv.Itoa2
import Derived.Shelf.Strconv.Itoa3
import Derived.Lib.LaidTab
import Derived.Stop.LaidErr
set_option maxHeartbeats 8000000
set_option maxRecDepth 100000
set_option linter.unusedVariables false
set_option linter.unusedSimpArgs false
section
namespace Go.Proofs.YtlfokdbnbmebiaaDoor.Q
open Go.RowKit
section
variable {P : Program} {t kt et : TypeId}
theorem map_get (w : World) (o : Obj) : (w.alloc o).heap[w.heap.size]? = some o := by
 show (w.heap.push o)[w.heap.size]? = some o
 simp
theorem map_set (w : World) (o o' : Obj) : ({ w.alloc o with heap := (w.alloc o).heap.setIfInBounds w.heap.size o' } : World) = w.alloc o' := by
 show ({ w with heap := (w.heap.push o).setIfInBounds w.heap.size o' } : World) = { w with heap := w.heap.push o' }
 congr 1
 apply Array.ext_getElem?
 intro i
 rw [Array.getElem?_setIfInBounds, Array.getElem?_push, Array.getElem?_push]
 by_cases h : w.heap.size = i
 ·subst h; simp
 ·rw [if_neg h]
  rw [if_neg (fun e => h e.symm), if_neg (fun e => h e.symm)]
theorem run_ins (K : Maps.Keyed P kt) (hT : P.underlying t = some (.map kt et)) (w : World) (es : Array MapEntry) (c : Nat) (x v : Value) {lx : Lit} (hx : keyOf P kt x = some lx) (hes : ∀ e ∈ es.toList, ∃ l, keyOf P kt e.key = some l) (hn : ∀ e ∈ es.toList, e.key ≠ x) :
  (Instr.mapUpdate t (.map (some w.heap.size)) x v).run P (w.alloc (.map es c)) = .ok () (w.alloc (.map (es.push { key := x, val := v, born := c }) (c + 1))) := by
 have hf : (Instr.findKey kt x es.toList).run P (w.alloc (.map es c)) = .ok none (w.alloc (.map es c)) := by
  rcases K.find (w.alloc (.map es c)) hx es.toList hes with h | ⟨j, e, h1, h2, h3⟩
  ·exact h.1
  ·exact absurd h3 (hn e (List.mem_of_getElem? h2))
 have hg := map_get w (.map es c)
 have h2 : (Instr.mapUpdate t (.map (some w.heap.size)) x v).run P (w.alloc (.map es c)) = .ok () ({ w.alloc (.map es c) with heap := (w.alloc (.map es c)).heap.setIfInBounds w.heap.size (.map (es.push { key := x, val := v, born := c }) (c + 1)) } : World) := by
  generalize hW : w.alloc (.map es c) = W at hg hf ⊢
  simp [Instr.mapUpdate, run_underlying hT, MapKept.run_getObj_map hg, K.check W false hx, hf, MapKept.run_setObj_map _ hg, Result.andThen]
 rw [h2, map_set]
end
end Go.Proofs.YtlfokdbnbmebiaaDoor.Q
end
section
namespace Go.Proofs.YtlfokdbnbmebiaaDoor.Q
open Go.RowKit Go.Proofs.YtlfokdbnbmebiaaDoorW.PrintWords Go.Proofs.YtlfokdbnbmebiaaDoorW.PrintLast Go.Proofs.YtlfokdbnbmebiaaDoorW.PrintMore
end Go.Proofs.YtlfokdbnbmebiaaDoor.Q
end
section
namespace Go.Proofs.YtlfokdbnbmebiaaDoor.Q
open Go.RowKit Go.Proofs.YtlfokdbnbmebiaaDoorW.PrintWords Go.Proofs.YtlfokdbnbmebiaaDoorW.PrintLast Go.Proofs.YtlfokdbnbmebiaaDoorW.PrintMore
end Go.Proofs.YtlfokdbnbmebiaaDoor.Q
end
section
namespace Go.Proofs.YtlfokdbnbmebiaaDoor.Q
open Go.RowKit Go.Proofs.YtlfokdbnbmebiaaDoorW.PrintWords Go.Proofs.YtlfokdbnbmebiaaDoorW.PrintLast Go.Proofs.YtlfokdbnbmebiaaDoorW.PrintMore
attribute [local go_sem] max2_int min2_int max_two min_two max_three min_three max_four min_four




end Go.Proofs.YtlfokdbnbmebiaaDoor.Q
end
section
namespace Go.Proofs.YtlfokdbnbmebiaaDoor.Q
open Go.ChangeShapes Go.WideShapes Go.Proofs.YtlfokdbnbmebiaaDoorW.PrintWords
def Opens {α : Type} (P : Program) (t : TypeId) (d : Kd α) (Wf : α → Prop) : Prop :=
 ∀ (H : Type) (enc : TypeId × Value → H) (w : World) (fuel : Nat) (cs : List Value) (y : DataW H × List MemPlace),
  DataW.trod enc P w 0 (fun _ => true) true fuel t cs = some y → ∃ x, d.K w x cs ∧ Wf x
theorem Opens.int {P : Program} {t : TypeId} {k : IntKind} (ht : P.underlying t = some (.int k)) : Opens P t (Kd.int k) (fun n => (Lit.int k n).wf = true) := by
 intro H enc w fuel cs y h
 obtain ⟨n, hc, _, hw⟩ := DataW.trod_int ht h
 exact ⟨n, hc, hw⟩
theorem Opens.bool {P : Program} {t : TypeId} (ht : P.underlying t = some .bool) : Opens P t Kd.bool (fun _ => True) := by
 intro H enc w fuel cs y h
 cases fuel with
 | zero => simp [DataW.trod] at h
 | succ n =>
  have hb : ∃ b, cs = [.bool b] := by
   unfold DataW.trod at h
   rw [ht] at h
   split at h <;> simp_all
  obtain ⟨b, rfl⟩ := hb
  exact ⟨b, rfl, trivial⟩
theorem Opens.string {P : Program} {t : TypeId} (ht : P.underlying t = some .string) : Opens P t Kd.string (fun s => s.size ≤ maxLen) := by
 intro H enc w fuel cs y h
 cases fuel with
 | zero => simp [DataW.trod] at h
 | succ n =>
  unfold DataW.trod at h
  rw [ht] at h
  split at h <;> simp_all
  obtain ⟨h1, _⟩ := h
  exact ⟨_, rfl, h1⟩
theorem mapM_range {β : Type} (f : Nat → Option β) : ∀ (n : Nat) (ys : List β), (List.range n).mapM f = some ys → ys.length = n ∧ ∀ i, i < n → f i = ys[i]? := by
 intro n
 induction n with
 | zero => intro ys h; simp at h; subst h; simp
 | succ n ih =>
  intro ys h
  rw [List.range_succ, List.mapM_append] at h
  simp only [Option.bind_eq_bind, Option.bind_eq_some_iff, List.mapM_cons, List.mapM_nil, Option.pure_def] at h
  obtain ⟨a, ha, b, ⟨c, hc, d, hd, hb⟩, he⟩ := h
  cases hd
  cases hb
  cases he
  obtain ⟨hl, hall⟩ := ih a ha
  refine ⟨by simp [hl], fun i hi => ?_⟩
  by_cases hin : i < n
  ·rw [hall i hin, List.getElem?_append_left (by omega)]
  ·obtain rfl : i = n := by omega
   rw [hc, List.getElem?_append_right (by omega), hl]
   simp
theorem cells?_at {w : World} {a : Addr} {n : Nat} {cs : List Value} (h : w.cells? 0 a n = some cs) : cs.length = n ∧ ∀ i u, cs[i]? = some u → w.cell? (a.add i) = some u := by
 unfold World.cells? at h
 rw [if_pos (Nat.zero_le _)] at h
 obtain ⟨hl, hall⟩ := mapM_range _ _ _ h
 refine ⟨hl, fun i u hu => ?_⟩
 have hi : i < n := by have := (List.getElem?_eq_some_iff.1 hu).1; omega
 rw [hall i hi, hu]
theorem Opens.slice {α : Type} {P : Program} {t e : TypeId} {d : Kd α} {Wf : α → Prop} (ht : P.underlying t = some (.slice e)) (he : P.cellsOf e = d.sz) (ho : Opens P e d Wf) : Opens P t (Kd.slice e d) (fun xs => xs.length ≤ maxLen ∧ ∀ x ∈ xs, Wf x) := by
 classical
 intro H enc w fuel cs y h
 rcases Go.Deep.open_slice ht h with ⟨rfl, _⟩ | ⟨a, len, cap, m, n, D, Pl, rfl, _, hl, hm, hmm, _, hel⟩
 ·exact ⟨[], ⟨none, 0, rfl, Nat.le_refl _, rfl, Nat.zero_le _, fun h0 => absurd h0 (by simp)⟩, by simp [maxLen]⟩
 ·have hx : ∀ i, i < len → ∃ x cs', cs'.length = d.sz ∧ (∀ j u, cs'[j]? = some u → w.cell? (a.add (i * d.sz + j)) = some u) ∧ d.K w x cs' ∧ Wf x := by
   intro i hi
   obtain ⟨cs', hc, htr⟩ := hel i (by rw [hmm]; simp; omega)
   rw [he] at hc
   obtain ⟨hcl, hcc⟩ := cells?_at hc
   obtain ⟨x, hK, hW⟩ := ho H enc w n cs' _ htr
   refine ⟨x, cs', hcl, fun j u hu => ?_, hK, hW⟩
   have := hcc j u hu
   rwa [Go.Deep.add_add] at this
  have hf : ∃ f : (i : Nat) → i < len → α, ∀ i (hi : i < len), ∃ cs', cs'.length = d.sz ∧ (∀ j u, cs'[j]? = some u → w.cell? (a.add (i * d.sz + j)) = some u) ∧ d.K w (f i hi) cs' ∧ Wf (f i hi) :=
   ⟨fun i hi => Classical.choose (hx i hi), fun i hi => Classical.choose_spec (hx i hi)⟩
  obtain ⟨f, hf⟩ := hf
  have hlen : (List.ofFn (fun i : Fin len => f i.1 i.2)).length = len := by simp
  refine ⟨List.ofFn (fun i : Fin len => f i.1 i.2), ⟨some a, cap, by rw [hlen], by rw [hlen]; exact hl, rfl, by rw [hlen]; unfold maxLen at hm; omega, fun _ => ⟨a, rfl, fun j p hj => ?_⟩⟩, by rw [hlen]; omega, fun x hxm => ?_⟩
  ·have hjl : j < len := by have := (List.getElem?_eq_some_iff.1 hj).1; simpa using this
   rw [List.getElem?_eq_getElem (by simpa using hjl)] at hj
   simp at hj
   subst hj
   obtain ⟨cs', h1, h2, h3, h4⟩ := hf j hjl
   exact ⟨cs', h1, h3, h2⟩
  ·obtain ⟨i, rfl⟩ := List.mem_ofFn.1 hxm
   exact (hf i.1 i.2).choose_spec.2.2.2
def OpensF {α : Type} (P : Program) (off : Nat) (fs : List Field) (d : Kd α) (Wf : α → Prop) : Prop :=
 ∀ (H : Type) (enc : TypeId × Value → H) (w : World) (fuel : Nat) (cs : List Value) (ys : List (DataW H × List MemPlace)), cs.length = off + d.sz →
  (fs.mapM fun f => DataW.trod enc P w 0 (fun _ => true) true fuel f.type ((cs.drop f.offset).take (P.cellsOf f.type))) = some ys → ∃ x, d.K w x (cs.drop off) ∧ Wf x
theorem OpensF.last {α : Type} {P : Program} {off : Nat} {f : Field} {d : Kd α} {Wf : α → Prop} (hoff : f.offset = off) (hc : P.cellsOf f.type = d.sz) (h : Opens P f.type d Wf) : OpensF P off [f] d Wf := by
 intro H enc w fuel cs ys hl hm
 simp only [List.mapM_cons, List.mapM_nil, Option.bind_eq_bind, Option.bind_eq_some_iff] at hm
 obtain ⟨a, ha, _⟩ := hm
 rw [hoff, hc, List.take_of_length_le (by rw [List.length_drop]; omega)] at ha
 exact h H enc w fuel _ a ha
theorem OpensF.cons {α β : Type} {P : Program} {off : Nat} {f : Field} {fs : List Field} {d : Kd α} {d' : Kd β} {Wf : α → Prop} {Wf' : β → Prop} (hoff : f.offset = off) (hc : P.cellsOf f.type = d.sz) (h : Opens P f.type d Wf)
  (h' : OpensF P (off + d.sz) fs d' Wf') : OpensF P off (f :: fs) (Kd.pair d d') (fun x => Wf x.1 ∧ Wf' x.2) := by
 intro H enc w fuel cs ys hl hm
 have hsz : (Kd.pair d d').sz = d.sz + d'.sz := rfl
 rw [hsz] at hl
 simp only [List.mapM_cons, Option.bind_eq_bind, Option.bind_eq_some_iff] at hm
 obtain ⟨a, ha, b, hb, _⟩ := hm
 rw [hoff, hc] at ha
 obtain ⟨x, hx, hwx⟩ := h H enc w fuel _ a ha
 obtain ⟨x', hx', hwx'⟩ := h' H enc w fuel cs b (by omega) hb
 refine ⟨(x, x'), ⟨_, _, ?_, hx, hx'⟩, hwx, hwx'⟩
 rw [← List.drop_drop, List.take_append_drop]
theorem Opens.struct {α : Type} {P : Program} {t : TypeId} {fs : Array Field} {d : Kd α} {Wf : α → Prop} (ht : P.underlying t = some (.struct fs)) (hc : P.cellsOf t = d.sz) (h : OpensF P 0 fs.toList d Wf) : Opens P t d Wf := by
 intro H enc w fuel cs y hy
 cases fuel with
 | zero => simp [DataW.trod] at hy
 | succ n =>
  unfold DataW.trod at hy
  rw [ht] at hy
  simp only at hy
  split at hy
  ·rename_i hl
   simp only [Option.map_eq_some_iff] at hy
   obtain ⟨ys, hys, _⟩ := hy
   have := h H enc w n cs ys (by omega) hys
   simpa using this
  ·cases hy
theorem Opens.iso {α β : Type} {P : Program} {t : TypeId} {d : Kd α} {Wf : α → Prop} {f : β → α} (h : Opens P t d Wf) (g : α → β) (hg : ∀ x, f (g x) = x) : Opens P t (Kd.iso d f) (fun b => Wf (f b)) := by
 intro H enc w fuel cs y hy
 obtain ⟨x, hx, hw⟩ := h H enc w fuel cs y hy
 exact ⟨g x, by show d.K w (f (g x)) cs; rw [hg]; exact hx, by show Wf (f (g x)); rw [hg]; exact hw⟩
theorem open_struct {H : Type} {enc : TypeId × Value → H} {α : Type} {P : Program} {w : World} {r : Reach} {b0 : Nat} {t : TypeId} {fs : Array Field} {d : Kd α} {Wf : α → Prop} {v : Value} {y : DataW H} {p : List MemPlace} (ht : P.underlying t = some (.struct fs)) (ho : Opens P t d Wf)
  (hv : Value.okWide P w r b0 t v) (h : DataW.Trod enc P w 0 (fun _ => true) true t v y p) : ∃ (cs : List Value) (x : α), v = .agg cs.toArray ∧ d.K w x cs ∧ Wf x := by
 obtain ⟨cs, rfl, hsz⟩ := okWide_struct ht hv
 obtain ⟨fuel, hf⟩ := h
 obtain ⟨x, hK, hW⟩ := ho H enc w fuel _ _ hf
 exact ⟨cs.toList, x, by simp, hK, hW⟩
end Go.Proofs.YtlfokdbnbmebiaaDoor.Q
end
section
namespace Go.Proofs.YtlfokdbnbmebiaaDoor.Q
open Go.RowKit Go.Proofs.YtlfokdbnbmebiaaDoorW.PrintWords
theorem op39 : Opens Tryd.prog 39 k39 wf39 := (Opens.struct Tryd.underlying39 (by kernel_rfl) (OpensF.cons rfl (by kernel_rfl) (Opens.int Tryd.underlying3) (OpensF.cons rfl (by kernel_rfl) (Opens.int Tryd.underlying3) (OpensF.cons rfl (by kernel_rfl) (Opens.int Tryd.underlying3) (OpensF.cons rfl (by kernel_rfl) (Opens.int Tryd.underlying3) (OpensF.cons rfl (by kernel_rfl) (Opens.int Tryd.underlying3) (OpensF.last rfl (by kernel_rfl) (Opens.int Tryd.underlying3)))))))).iso (fun x => ⟨x.1, x.2.1, x.2.2.1, x.2.2.2.1, x.2.2.2.2.1, x.2.2.2.2.2⟩) (fun _ => rfl)
theorem op41 : Opens Tryd.prog 41 k41 wf41 := (Opens.struct Tryd.underlying41 (by kernel_rfl) (OpensF.cons rfl (by kernel_rfl) (Opens.string Tryd.underlying9) (OpensF.cons rfl (by kernel_rfl) (Opens.int Tryd.underlying3) (OpensF.cons rfl (by kernel_rfl) (Opens.int Tryd.underlying3) (OpensF.last rfl (by kernel_rfl) op39))))).iso (fun x => ⟨x.1, x.2.1, x.2.2.1, x.2.2.2⟩) (fun _ => rfl)
theorem op43 : Opens Tryd.prog 43 k43 wf43 := (Opens.struct Tryd.underlying43 (by kernel_rfl) (OpensF.cons rfl (by kernel_rfl) (Opens.string Tryd.underlying9) (OpensF.cons rfl (by kernel_rfl) (Opens.int Tryd.underlying3) (OpensF.cons rfl (by kernel_rfl) (Opens.int Tryd.underlying3) (OpensF.last rfl (by kernel_rfl) op39))))).iso (fun x => ⟨x.1, x.2.1, x.2.2.1, x.2.2.2⟩) (fun _ => rfl)
theorem op26 : Opens Tryd.prog 26 k26 wf26 := (Opens.struct Tryd.underlying26 (by kernel_rfl) (OpensF.cons rfl (by kernel_rfl) (Opens.int Tryd.underlying3) (OpensF.cons rfl (by kernel_rfl) (Opens.slice Tryd.underlying23 (by kernel_rfl) op41) (OpensF.last rfl (by kernel_rfl) (Opens.slice Tryd.underlying24 (by kernel_rfl) op43))))).iso (fun x => ⟨x.1, x.2.1, x.2.2⟩) (fun _ => rfl)
end Go.Proofs.YtlfokdbnbmebiaaDoor.Q
end
section
-- PRINTED BY print.sh 35421559b90ae4d0a3588c463048766b98c2df88dd9212a6774a882060cdf62d: not written by this session
-- PRINTED WORDS (module Derived/Print/Sized.lean): go-gate-2's, for the rows of laws over slices: an AI agent of Go's test side, Tue Nov 17 2026; no person has read it. Lean checks it.
namespace Go.Proofs.YtlfokdbnbmebiaaDoorW.PrintWords
open Go.ChangeShapes Go.WideShapes
end Go.Proofs.YtlfokdbnbmebiaaDoorW.PrintWords
end
section
namespace Go.Proofs
open Go.Shelf
def Tryd.lays156_ren : Go.Shelf.Ren := ⟨fun | 156 => 48 | 165 => 64 | 166 => 47 | 169 => 32 | 240 => 63 | 241 => 79 | 276 => 78 | 277 => 83 | n => n, fun | 31 => 55 | 9 => 9 | 3 => 3 | 4 => 4 | 0 => 0 | 20 => 20 | 72 => 67 | 76 => 86 | 70 => 64 | 37 => 65 | 75 => 85 | 127 => 92 | 164 => 104 | 5 => 5 | 80 => 74 | n => n, fun | n => n⟩
theorem Tryd.lays156 : Go.Proofs.Lays.n156 Tryd.prog Tryd.lays156_ren := {
 mixed := by kernel_rfl
 f156 := Tryd.func48.trans (congrArg some (by kernel_rfl))
 f165 := Tryd.func64.trans (congrArg some (by kernel_rfl))
 f166 := Tryd.func47.trans (congrArg some (by kernel_rfl))
 f169 := Tryd.func32.trans (congrArg some (by kernel_rfl))
 f240 := Tryd.func63.trans (congrArg some (by kernel_rfl))
 f241 := Tryd.func79.trans (congrArg some (by kernel_rfl))
 f276 := Tryd.func78.trans (congrArg some (by kernel_rfl))
 f277 := Tryd.func83.trans (congrArg some (by kernel_rfl))
 t0 := Tryd.underlying0
 a0 := Tryd.isAgg0
 z0 := Tryd.sizeOf0
 v0 := Tryd.zeroValue0
 t3 := Tryd.underlying3
 a3 := Tryd.isAgg3
 z3 := Tryd.sizeOf3
 v3 := Tryd.zeroValue3
 t4 := Tryd.underlying4
 a4 := Tryd.isAgg4
 z4 := Tryd.sizeOf4
 v4 := Tryd.zeroValue4
 t9 := Tryd.underlying9
 a9 := Tryd.isAgg9
 z9 := Tryd.sizeOf9
 v9 := Tryd.zeroValue9
 t20 := Tryd.underlying20
 a20 := Tryd.isAgg20
 z20 := Tryd.sizeOf20
 v20 := Tryd.zeroValue20
 t31 := Tryd.underlying55
 a31 := Tryd.isAgg55
 z31 := Tryd.sizeOf55
 v31 := Tryd.zeroValue55
 t37 := Tryd.underlying65
 a37 := Tryd.isAgg65
 z37 := Tryd.sizeOf65
 v37 := Tryd.zeroValue65
 t70 := Tryd.underlying64
 a70 := Tryd.isAgg64
 z70 := Tryd.sizeOf64
 v70 := Tryd.zeroValue64
 t72 := Tryd.underlying67
 a72 := Tryd.isAgg67
 z72 := Tryd.sizeOf67
 v72 := Tryd.zeroValue67
 t75 := Tryd.underlying85
 a75 := Tryd.isAgg85
 z75 := Tryd.sizeOf85
 v75 := Tryd.zeroValue85
 t76 := Tryd.underlying86
 a76 := Tryd.isAgg86
 z76 := Tryd.sizeOf86
 v76 := Tryd.zeroValue86
 t127 := Tryd.underlying92
 a127 := Tryd.isAgg92
 z127 := Tryd.sizeOf92
 v127 := Tryd.zeroValue92
 t164 := Tryd.underlying104
 a164 := Tryd.isAgg104
 z164 := Tryd.sizeOf104
 v164 := Tryd.zeroValue104 }
theorem Tryd.Builder_Extra_156 : Builder.Extra Tryd.prog Tryd.lays156_ren := {
 sizeBuilder := by kernel_rfl
 liesBuilder := by kernel_rfl
 t5 := Tryd.underlying5
 a5 := Tryd.isAgg5
 z5 := Tryd.sizeOf5
 v5 := Tryd.zeroValue5
 infoByte := by kernel_rfl
 cellsByte := by kernel_rfl
 sizeByte := by kernel_rfl
 neB5 := by decide }
open Go.RowKit in
theorem Tryd.strings_Join (bk o c : Nat) (xs : List ByteArray) (sep : ByteArray) (w : World) (hcells : ∀ (j : Nat) x, xs[j]? = some x → w.cell? ⟨bk, o + j, none⟩ = some (.string x)) (hbk : bk < w.heap.size) (hN : xs.length ≤ 140737488355328) (hcap : xs.length ≤ c) (hlen : (Lib.join (xs.map (·.data.toList)) sep.data.toList).length ≤ 140737488355328) :
  Calls Tryd.prog 48 #[.slice (some ⟨bk, o, none⟩) xs.length c, .string sep] w fun e w' => e = .returned (.string ⟨(Lib.join (xs.map (·.data.toList)) sep.data.toList).toArray⟩) ∧ Below w.heap.size w w' := Any.strings_Join Tryd.lays156 Tryd.Builder_Extra_156 bk o c xs sep w hcells hbk hN hcap hlen
def Tryd.laysM171_ren : Go.Shelf.Ren := ⟨fun | 171 => 49 | 243 => 65 | 246 => 80 | 283 => 84 | 284 => 85 | 285 => 86 | 286 => 87 | 129 => 89 | 317 => 88 | 318 => 90 | 319 => 91 | 320 => 92 | 337 => 93 | 338 => 94 | n => n, fun | 3 => 3 | 9 => 9 | 2 => 2 | 4 => 4 | 171 => 110 | 0 => 0 | 53 => 111 | 37 => 65 | 5 => 5 | 173 => 114 | 212 => 118 | 51 => 119 | 20 => 20 | 213 => 120 | 46 => 121 | 232 => 124 | 233 => 125 | n => n, fun | 17 => 3 | 18 => 4 | 19 => 5 | n => n⟩
theorem Tryd.laysM171 : Go.Proofs.LaysM.n171 Tryd.prog Tryd.laysM171_ren := {
 mixed := by kernel_rfl
 f129 := Tryd.func89.trans (congrArg some (by kernel_rfl))
 f171 := Tryd.func49.trans (congrArg some (by kernel_rfl))
 f243 := Tryd.func65.trans (congrArg some (by kernel_rfl))
 f246 := Tryd.func80.trans (congrArg some (by kernel_rfl))
 f283 := Tryd.func84.trans (congrArg some (by kernel_rfl))
 f284 := Tryd.func85.trans (congrArg some (by kernel_rfl))
 f285 := Tryd.func86.trans (congrArg some (by kernel_rfl))
 f286 := Tryd.func87.trans (congrArg some (by kernel_rfl))
 f317 := Tryd.func88.trans (congrArg some (by kernel_rfl))
 f318 := Tryd.func90.trans (congrArg some (by kernel_rfl))
 f319 := Tryd.func91.trans (congrArg some (by kernel_rfl))
 f320 := Tryd.func92.trans (congrArg some (by kernel_rfl))
 f337 := Tryd.func93.trans (congrArg some (by kernel_rfl))
 f338 := Tryd.func94.trans (congrArg some (by kernel_rfl))
 t0 := Tryd.underlying0
 a0 := Tryd.isAgg0
 z0 := Tryd.sizeOf0
 v0 := Tryd.zeroValue0
 t2 := Tryd.underlying2
 a2 := Tryd.isAgg2
 z2 := Tryd.sizeOf2
 v2 := Tryd.zeroValue2
 t3 := Tryd.underlying3
 a3 := Tryd.isAgg3
 z3 := Tryd.sizeOf3
 v3 := Tryd.zeroValue3
 t4 := Tryd.underlying4
 a4 := Tryd.isAgg4
 z4 := Tryd.sizeOf4
 v4 := Tryd.zeroValue4
 t5 := Tryd.underlying5
 a5 := Tryd.isAgg5
 z5 := Tryd.sizeOf5
 v5 := Tryd.zeroValue5
 t9 := Tryd.underlying9
 a9 := Tryd.isAgg9
 z9 := Tryd.sizeOf9
 v9 := Tryd.zeroValue9
 t20 := Tryd.underlying20
 a20 := Tryd.isAgg20
 z20 := Tryd.sizeOf20
 v20 := Tryd.zeroValue20
 t37 := Tryd.underlying65
 a37 := Tryd.isAgg65
 z37 := Tryd.sizeOf65
 v37 := Tryd.zeroValue65
 t46 := Tryd.underlying121
 a46 := Tryd.isAgg121
 z46 := Tryd.sizeOf121
 v46 := Tryd.zeroValue121
 t51 := Tryd.underlying119
 a51 := Tryd.isAgg119
 z51 := Tryd.sizeOf119
 v51 := Tryd.zeroValue119
 t53 := Tryd.underlying111
 a53 := Tryd.isAgg111
 z53 := Tryd.sizeOf111
 v53 := Tryd.zeroValue111
 t171 := Tryd.underlying110
 a171 := Tryd.isAgg110
 z171 := Tryd.sizeOf110
 v171 := Tryd.zeroValue110
 t173 := Tryd.underlying114
 a173 := Tryd.isAgg114
 z173 := Tryd.sizeOf114
 v173 := Tryd.zeroValue114
 t212 := Tryd.underlying118
 a212 := Tryd.isAgg118
 z212 := Tryd.sizeOf118
 v212 := Tryd.zeroValue118
 t213 := Tryd.underlying120
 a213 := Tryd.isAgg120
 z213 := Tryd.sizeOf120
 t232 := Tryd.underlying124
 a232 := Tryd.isAgg124
 z232 := Tryd.sizeOf124
 v232 := Tryd.zeroValue124
 t233 := Tryd.underlying125
 a233 := Tryd.isAgg125
 z233 := Tryd.sizeOf125
 v233 := Tryd.zeroValue125
 g17 := by kernel_rfl
 g18 := by kernel_rfl
 g19 := by kernel_rfl
 i0 := by kernel_rfl
 i2 := by kernel_rfl
 i3 := by kernel_rfl
 i4 := by kernel_rfl
 i5 := by kernel_rfl
 i9 := by kernel_rfl
 i20 := by kernel_rfl
 i37 := by kernel_rfl
 i46 := by kernel_rfl
 i51 := by kernel_rfl
 i53 := by kernel_rfl
 i171 := by kernel_rfl
 i173 := by kernel_rfl
 i212 := by kernel_rfl
 i232 := by kernel_rfl
 i233 := by kernel_rfl
 m17 := by kernel_rfl
 m18 := by kernel_rfl
 m19 := by kernel_rfl }
open Go.RowKit Go.Sort Go.Lib in
theorem Tryd.strconv_Itoa (n : Int) (h0 : -9223372036854775808 ≤ n) (h1 : n ≤ 9223372036854775807) (w : World) (htab : Lib.TabIs Tryd.prog w "internal/strconv.uint64pow10" .u64 Lib.pow10Tab) :
  Calls Tryd.prog 49 #[.int .i64 n] w fun e w' => e = .returned (.string ⟨(Lib.itoa n).toArray⟩) ∧ ∃ k os, w' = grow (w.drewN k) os := Any.strconv_Itoa Tryd.laysM171 n h0 h1 w htab
end Go.Proofs
end
section
namespace Go.Proofs.YtlfokdbnbmebiaaDoor.Q
open Go.RowKit Go.Proofs.YtlfokdbnbmebiaaDoorW.PrintWords Go.Proofs.YtlfokdbnbmebiaaDoorW.PrintLast Go.Proofs.YtlfokdbnbmebiaaDoorW.PrintMore
set_option maxRecDepth 100000
def strData (xs : List (List UInt8)) : DataW Unit := .agg (xs.map fun x => .lit (.string x))
def StrsAt (w : World) (g : Nat) (xs : List ByteArray) : Prop := ∃ t fr, w.heap[g]? = some (.cells (xs.map Value.string).toArray t fr)
theorem cells_of_strs {P : Program} {w : World} {base : Nat} {sp : Nat → Bool} {held : Bool} {fuel : Nat} {t e : TypeId} {n : Nat} {cs : List Value} {zs : List (List UInt8)} {p : List MemPlace}
  (ht : P.underlying t = some (.array n e)) (he : P.underlying e = some .string) (hce : P.cellsOf e = 1) (hct : P.cellsOf t = n)
  (h : DataW.trod (fun _ => ()) P w base sp held fuel t cs = some (strData zs, p)) : cs = zs.map fun z => Value.string ⟨z.toArray⟩ := by
 cases fuel with
 | zero => simp [DataW.trod] at h
 | succ fuel =>
  simp only [DataW.trod, ht, hce, hct, Nat.mul_one] at h
  split at h
  ·rename_i hl
   obtain ⟨xs, hm, hx⟩ := Option.map_eq_some_iff.1 h
   have hxs : xs.map (·.1) = zs.map fun z => (DataW.lit (.string z) : DataW Unit) := by
    have := congrArg Prod.fst hx
    simpa [strData] using this
   have hxl : xs.length = n := by simpa using Lib.mapM_length hm
   have hzl : zs.length = n := by
    have := congrArg List.length hxs
    simp at this
    omega
   apply List.ext_getElem?
   intro i
   by_cases hi : i < n
   ·obtain ⟨b, hb, hf⟩ := Lib.mapM_at hm i i (by simp [hi])
    obtain ⟨z, hc, rfl, _⟩ := DataW.trod_string he hf
    have h1 : cs[i]? = some (.string z) := by
     have := congrArg (·[0]?) hc
     simpa [List.getElem?_take, List.getElem?_drop] using this
    have h2 : (xs.map (·.1))[i]? = some (DataW.lit (.string z.data.toList) : DataW Unit) := by simp [hb]
    rw [hxs] at h2
    simp only [List.getElem?_map, Option.map_eq_some_iff, DataW.lit.injEq, Lit.string.injEq] at h2
    obtain ⟨z', hz', hz2⟩ := h2
    simp [h1, hz', hz2]
   ·rw [List.getElem?_eq_none (by omega), List.getElem?_eq_none (by simp; omega)]
  ·cases h
theorem strsAt_of_laid {P : Program} {W : World} {name : String} {zs : List (List UInt8)} {l : List (String × DataW Unit)} {g : Nat} {t e : TypeId} {n : Nat}
  (hg : P.globalNamed name = some g) (hty : (P.globals[g]?).map (·.type) = some t) (ht : P.underlying t = some (.array n e)) (he : P.underlying e = some .string) (hce : P.cellsOf e = 1) (hct : P.cellsOf t = n)
  (h : laidMet P l W) (hin : (name, strData zs) ∈ l) : StrsAt W g (zs.map fun z => ⟨z.toArray⟩) := by
 induction l with
 | nil => simp at hin
 | cons x r ih =>
  rcases List.mem_cons.1 hin with rfl | hin
  ·obtain ⟨ps, ⟨g', t', cs, fuel, p, q, hg', ht', hvar, hd, _, _⟩, _⟩ := h
   obtain rfl := Option.some.inj (hg.symm.trans hg')
   obtain rfl := Option.some.inj (hty.symm.trans ht')
   have h1 := cells_of_strs ht he hce hct hd
   simp only [World.var?, hg, Option.bind_some] at hvar
   split at hvar
   ·rename_i cs' t2 fr h2
    refine ⟨t2, fr, ?_⟩
    rw [h2]
    obtain rfl := Option.some.inj hvar
    have h3 : cs' = (((zs.map fun z => (⟨z.toArray⟩ : ByteArray)).map Value.string)).toArray := by
     apply Array.toList_inj.1
     rw [h1, List.map_map]
     rfl
    rw [h3]
   ·cases hvar
  ·exact ih h.tail hin
theorem tabIs_of_laid {P : Program} {W : World} {name : String} {k : IntKind} {zs : List Int} {l : List (String × DataW Unit)} {g : Nat} {t e : TypeId} {n : Nat}
  (hg : P.globalNamed name = some g) (hty : (P.globals[g]?).map (·.type) = some t) (ht : P.underlying t = some (.array n e)) (he : P.underlying e = some (.int k)) (hce : P.cellsOf e = 1) (hct : P.cellsOf t = n)
  (h : laidMet P l W) (hin : (name, Lib.tabData k zs) ∈ l) : Lib.TabIs P W name k zs := by
 induction l with
 | nil => simp at hin
 | cons x r ih =>
  rcases List.mem_cons.1 hin with rfl | hin
  ·exact Lib.tabIs_of_head hg hty ht he hce hct h
  ·exact ih h.tail hin
theorem StrsAt.cell {w : World} {g : Nat} {xs : List ByteArray} (h : StrsAt w g xs) (i : Nat) : w.cell? ⟨g, i, none⟩ = (xs.map Value.string)[i]? := by
 obtain ⟨t, fr, h⟩ := h
 simp [World.cell?, h]
theorem StrsAt.lt {w : World} {g : Nat} {xs : List ByteArray} (h : StrsAt w g xs) : g < w.heap.size := by
 obtain ⟨t, fr, h⟩ := h
 exact (Array.getElem?_eq_some_iff.1 h).1
theorem StrsAt.below {w W : World} {g : Nat} {xs : List ByteArray} (h : StrsAt w g xs) (hb : Below w.heap.size w W) : StrsAt W g xs := by
 have hl := h.lt
 obtain ⟨t, fr, h⟩ := h
 exact ⟨t, fr, (hb.block g hl).trans h⟩
theorem tabIs_below {P : Program} {w W : World} {name : String} {k : IntKind} {zs : List Int} (h : Lib.TabIs P w name k zs) (hb : Below w.heap.size w W) : Lib.TabIs P W name k zs := by
 unfold Lib.TabIs World.var? at h ⊢
 obtain ⟨g, hg, h1⟩ := Option.bind_eq_some_iff.1 h
 rw [hg, Option.bind_some]
 have hl : g < w.heap.size := by
  rcases Nat.lt_or_ge g w.heap.size with h2 | h2
  ·exact h2
  ·rw [Array.getElem?_eq_none h2] at h1
   simp at h1
 rw [hb.block g hl]
 exact h1
def tDays : List ByteArray := [⟨#[115, 117, 110, 100, 97, 121]⟩, ⟨#[109, 111, 110, 100, 97, 121]⟩, ⟨#[116, 117, 101, 115, 100, 97, 121]⟩, ⟨#[119, 101, 100, 110, 101, 115, 100, 97, 121]⟩, ⟨#[116, 104, 117, 114, 115, 100, 97, 121]⟩, ⟨#[102, 114, 105, 100, 97, 121]⟩, ⟨#[115, 97, 116, 117, 114, 100, 97, 121]⟩]
def tPols : List ByteArray := [⟨#[116, 114, 97, 110, 115, 102, 101, 114]⟩, ⟨#[99, 111, 109, 109, 101, 109, 111, 114, 97, 116, 101]⟩, ⟨#[111, 109, 105, 116]⟩]
structure Tabs (w : World) : Prop where
 days : StrsAt w 1 tDays
 pols : StrsAt w 0 tPols
 tens : Lib.TabIs Tryd.prog w "internal/strconv.uint64pow10" .u64 Lib.pow10Tab
theorem Tabs.below {w W : World} (h : Tabs w) (hb : Below w.heap.size w W) : Tabs W := ⟨h.days.below hb, h.pols.below hb, tabIs_below h.tens hb⟩
theorem tabs_of_laid {W : World} {l : List (String × DataW Unit)} (h : laidMetH Tryd.prog l W) (hp : (l.all fun x => x.2.handleName?.isNone) = true)
  (h1 : ("computus/weekday.names", strData (tDays.map (·.data.toList))) ∈ l) (h2 : ("computus/cattext.policies", strData (tPols.map (·.data.toList))) ∈ l) (h3 : ("internal/strconv.uint64pow10", Lib.tabData .u64 Lib.pow10Tab) ∈ l) : Tabs W := by
 have hf : l.filter (fun x => x.2.handleName?.isSome) = [] := by
  rw [List.filter_eq_nil_iff]
  intro x hx
  have := List.all_eq_true.1 hp x hx
  simpa using this
 have h : laidMet Tryd.prog l W := by
  unfold laidMetH at h
  rw [hf] at h
  exact h
 exact ⟨strsAt_of_laid (g := 1) (t := 103) (e := 9) (n := 7) (by kernel_rfl) (by kernel_rfl) (by kernel_rfl) (by kernel_rfl) (by kernel_rfl) (by kernel_rfl) h h1, strsAt_of_laid (g := 0) (t := 73) (e := 9) (n := 3) (by kernel_rfl) (by kernel_rfl) (by kernel_rfl) (by kernel_rfl) (by kernel_rfl) (by kernel_rfl) h h2, tabIs_of_laid (g := 3) (t := 118) (e := 111) (n := 20) (by kernel_rfl) (by kernel_rfl) (by kernel_rfl) (by kernel_rfl) (by kernel_rfl) (by kernel_rfl) h h3⟩
end Go.Proofs.YtlfokdbnbmebiaaDoor.Q
end
section
namespace Go.Proofs.YtlfokdbnbmebiaaDoor.Q
open Go.RowKit Go.Proofs.YtlfokdbnbmebiaaDoorW.PrintWords Go.Proofs.YtlfokdbnbmebiaaDoorW.PrintLast Go.Proofs.YtlfokdbnbmebiaaDoorW.PrintMore
set_option maxRecDepth 100000
abbrev Sc := Nat × Bool
def scW (s : ByteArray) (l : List ByteArray) (x : Sc) : Int × Sc :=
 if x.2 = true then (-1, x) else (if (scWord s x.1 l).1 then (scWord s x.1 l).2.2 else -1, (scWord s x.1 l).2.1, !(scWord s x.1 l).1)
def scN (s : ByteArray) (x : Sc) : Int × Sc :=
 if x.2 = true then (0, x) else (if (scNum s x.1).1 then (scNum s x.1).2.2 else 0, (scNum s x.1).2.1, !(scNum s x.1).1)
def scI (s : ByteArray) (x : Sc) : ByteArray × Sc :=
 if x.2 = true then (⟨#[]⟩, x) else (if (scIdent s x.1).1 then s.extract x.1 (scIdent s x.1).2 else ⟨#[]⟩, (scIdent s x.1).2, !(scIdent s x.1).1)
def scE (s : ByteArray) (x : Sc) : Sc := if x.2 = true then x else (x.1, !decide (s.size ≤ x.1))
theorem scTake_le {s : ByteArray} {i : Nat} {p : Int → Bool} (h : scTake s i p = true) : i + 1 ≤ s.size := scTake_lt h
theorem scWordLoop_le {s : ByteArray} {F : Nat} {l : List ByteArray} : ∀ (k j : Nat), j ≤ s.size → (scWordLoop s F l k j).2.1 ≤ s.size
 | 0, j, h => h
 | k + 1, j, h => by
  rw [scWordLoop]
  split
  ·rename_i ht
   split
   ·exact scWordLoop_le k (j + 1) (scTake_le ht)
   ·exact scTake_le ht
  ·exact h
theorem scW_le {s : ByteArray} {l : List ByteArray} {x : Sc} (h : x.1 ≤ s.size) : (scW s l x).2.1 ≤ s.size := by
 unfold scW
 split
 ·exact h
 ·exact scWordLoop_le _ _ h
theorem scNum_le {s : ByteArray} {i : Nat} (h : i ≤ s.size) : (scNum s i).2.1 ≤ s.size := by
 unfold scNum
 split
 ·rename_i h1; exact scTake_le h1
 ·split
  ·rename_i h1
   split
   ·rename_i h2; exact (scRun_spec pDigit s 9 (i + 1 + 1) (scTake_le h2)).2.1
   ·exact scTake_le h1
  ·split
   ·rename_i h2; exact (scRun_spec pDigit s 9 (i + 1) (scTake_le h2)).2.1
   ·exact h
theorem scN_le {s : ByteArray} {x : Sc} (h : x.1 ≤ s.size) : (scN s x).2.1 ≤ s.size := by
 unfold scN
 split
 ·exact h
 ·exact scNum_le h
theorem scI_le {s : ByteArray} {x : Sc} (h : x.1 ≤ s.size) : (scI s x).2.1 ≤ s.size := by
 unfold scI
 split
 ·exact h
 ·exact (scIdent_spec s x.1 h).2
theorem scE_le {s : ByteArray} {x : Sc} (h : x.1 ≤ s.size) : (scE s x).1 ≤ s.size := by
 unfold scE
 split <;> exact h
structure SP (w0 W : World) (g : Nat) (s : ByteArray) (x : Sc) : Prop where
 I : IsS77 w0 W g s (x.1 : Int) x.2
 B : Below w0.heap.size w0 W
 L : x.1 ≤ s.size
 Z : s.size ≤ 4611686018427387904
section
variable {w0 W : World} {g : Nat} {s : ByteArray} {x : Sc}
theorem SP.alloc (h : SP w0 W g s x) (o : Obj) : SP w0 (W.alloc o) g s x := ⟨h.I.alloc o, h.B.alloc h.B.size o, h.L, h.Z⟩
theorem SP.drewN (h : SP w0 W g s x) (n : Nat) : SP w0 (W.drewN n) g s x := ⟨h.I.drewN n, pw_below_drewN h.B n, h.L, h.Z⟩
theorem SP.drew (h : SP w0 W g s x) : SP w0 W.drew g s x := ⟨h.I.drew, below_drew h.B, h.L, h.Z⟩
theorem SP.far (h : SP w0 W g s x) {p : Addr} (hp : g ≠ p.block) (h0 : w0.heap.size ≤ p.block) (u : Value) : SP w0 (W.setCell p u) g s x := ⟨h.I.far hp u, h.B.setCell h0 u, h.L, h.Z⟩
theorem SP.below {W1 : World} (h : SP w0 W g s x) (hb : Below W.heap.size W W1) : SP w0 W1 g s x := ⟨h.I.below hb, below_then h.B h.B.size hb, h.L, h.Z⟩
theorem SP.lt (h : SP w0 W g s x) : g < W.heap.size := h.I.lt
theorem SP.new (w0 W : World) (s : ByteArray) (hB : Below w0.heap.size w0 W) (hs : s.size ≤ 4611686018427387904) : SP w0 (W.alloc (.cells #[.string s, .int .i64 0, .bool false] 77)) W.heap.size s (0, false) :=
 ⟨IsS77.new w0 W s 0 false hB, hB.alloc hB.size _, Nat.zero_le _, hs⟩
theorem SP.tabs (h : SP w0 W g s x) (hT : Tabs w0) : Tabs W := hT.below h.B
theorem SP.word {A1 : Option Addr} {c1 n : Nat} {l1 : List ByteArray} (h : SP w0 W g s x) (hn : l1.length = n) (hr1 : Kd.string.C W A1 l1.length l1) (hf1 : ∀ ad, A1 = some ad → 0 < l1.length → ad.block ≠ g) :
  Calls Tryd.prog 36 #[.pointer (some ⟨g, 0, none⟩), .slice A1 n c1] W fun e w' => e = .returned (.int .i64 (scW s l1 x).1) ∧ SP w0 w' g s (scW s l1 x).2 ∧ KeepBut W w' g none := by
 subst hn
 obtain ⟨i, bad⟩ := x
 have hle := scW_le (l := l1) h.L
 cases bad with
 | true => exact (word_bad w0 W g s (i : Int) A1 c1 l1 h.I h.B).mono fun e w' ⟨he, hI, hB, hK⟩ => ⟨he, ⟨hI, hB, h.L, h.Z⟩, hK⟩
 | false => exact (word_any w0 W g s i A1 c1 l1 h.I h.B h.Z h.L hr1 hf1).mono fun e w' ⟨he, hI, hB, hK⟩ => ⟨he, ⟨hI, hB, hle, h.Z⟩, hK⟩
theorem SP.words {l1 : List ByteArray} {cs : Array Value} {n : Nat} (h : SP w0 W g s x) (hn : l1.length = n) (hl : n ≤ 9223372036854775807) (hcs : (l1.map Value.string).toArray = cs) :
  Calls Tryd.prog 36 #[.pointer (some ⟨g, 0, none⟩), .slice (some ⟨W.heap.size, 0, none⟩) n n] (W.alloc (.cells cs 9)) fun e w' => e = .returned (.int .i64 (scW s l1 x).1) ∧ SP w0 w' g s (scW s l1 x).2 ∧ KeepBut W w' g none := by
 subst hcs
 refine ((h.alloc _).word hn (strings_C (blk_new W _) (by omega) (fun j hj => by simp [List.getElem?_eq_getElem hj, List.getD])) (fun ad e _ => by have h1 := h.lt; obtain rfl := Option.some.inj e; exact Nat.ne_of_gt h1)).mono fun e w' ⟨he, hI, hK⟩ => ⟨he, hI, ?_⟩
 exact (keep_alloc (KeepBut.refl W g none) _).trans hK (.inl rfl)
theorem SP.words' {l1 : List ByteArray} {cs : Array Value} {n b : Nat} (h : SP w0 W g s x) (hz : W.heap.size = b) (hn : l1.length = n) (hl : n ≤ 9223372036854775807) (hcs : (l1.map Value.string).toArray = cs) :
  Calls Tryd.prog 36 #[.pointer (some ⟨g, 0, none⟩), .slice (some ⟨b, 0, none⟩) n n] (W.alloc (.cells cs 9)) fun e w' => e = .returned (.int .i64 (scW s l1 x).1) ∧ SP w0 w' g s (scW s l1 x).2 ∧ KeepBut W w' g none := by
 subst hz
 exact h.words hn hl hcs
theorem SP.number (h : SP w0 W g s x) :
  Calls Tryd.prog 57 #[.pointer (some ⟨g, 0, none⟩)] W fun e w' => e = .returned (.int .i64 (scN s x).1) ∧ SP w0 w' g s (scN s x).2 ∧ KeepBut W w' g none := by
 obtain ⟨i, bad⟩ := x
 have hle := scN_le h.L
 cases bad with
 | true => exact (number_bad w0 W g s (i : Int) h.I h.B).mono fun e w' ⟨he, hI, hB, hK⟩ => ⟨he, ⟨hI, hB, h.L, h.Z⟩, hK⟩
 | false => exact (number_ok w0 W g s i h.I h.B h.Z).mono fun e w' ⟨he, hI, hB, hK⟩ => ⟨he, ⟨hI, hB, hle, h.Z⟩, hK⟩
theorem SP.ident (h : SP w0 W g s x) :
  Calls Tryd.prog 59 #[.pointer (some ⟨g, 0, none⟩)] W fun e w' => e = .returned (.string (scI s x).1) ∧ SP w0 w' g s (scI s x).2 ∧ KeepBut W w' g none := by
 obtain ⟨i, bad⟩ := x
 have hle := scI_le h.L
 cases bad with
 | true => exact (ident_bad w0 W g s (i : Int) h.I h.B).mono fun e w' ⟨he, hI, hB, hK⟩ => ⟨he, ⟨hI, hB, h.L, h.Z⟩, hK⟩
 | false => exact (ident_ok w0 W g s i h.I h.B h.Z h.L).mono fun e w' ⟨he, hI, hB, hK⟩ => ⟨he, ⟨hI, hB, hle, h.Z⟩, hK⟩
theorem SP.end_ (h : SP w0 W g s x) :
  Calls Tryd.prog 38 #[.pointer (some ⟨g, 0, none⟩)] W fun e w' => e = .returned (.tuple #[]) ∧ SP w0 w' g s (scE s x) ∧ KeepBut W w' g none := by
 obtain ⟨i, bad⟩ := x
 have hle := scE_le h.L
 cases bad with
 | true => exact (end_bad w0 W g s (i : Int) h.I h.B).mono fun e w' ⟨he, hI, hB, hK⟩ => ⟨he, ⟨hI, hB, h.L, h.Z⟩, hK⟩
 | false => exact (end_any w0 W g s i h.I h.B).mono fun e w' ⟨he, hI, hB, hK⟩ => ⟨he, ⟨hI, hB, hle, h.Z⟩, hK⟩
theorem SP.err (h : SP w0 W g s x) :
  Calls Tryd.prog 18 #[.pointer (some ⟨g, 0, none⟩)] W fun e w' => e = .returned (.int .i64 (if x.2 then 6 else 0)) ∧ w' = W := err_any W g x.2 (cellS77_2 h.I.1)
theorem SP.offset (h : SP w0 W g s x) :
  Calls Tryd.prog 19 #[.pointer (some ⟨g, 0, none⟩)] W fun e w' => e = .returned (.int .i64 x.1) ∧ w' = W := offset_any W g x.1 (cellS77_1 h.I.1)
end
theorem keepBut_alloc {w W : World} {g : Nat} {o : Obj} (h : KeepBut (w.alloc o) W g none) : KeepBut w W g none := (keep_alloc (KeepBut.refl w g none) o).trans h (.inl rfl)
theorem keepBut_then {w w1 w2 : World} {g : Nat} (h : KeepBut w w1 g none) (k : KeepBut w1 w2 g none) : KeepBut w w2 g none := h.trans k (.inl rfl)
theorem cell_new1 (w : World) (v : Value) (t : TypeId) : (w.alloc (.cells #[v] t)).cell? ⟨w.heap.size, 0, none⟩ = some v := blk_cell (blk_new w _) 0
structure PF (w0 w W : World) (g : Nat) (s : ByteArray) (x : Sc) (bs : List (Nat × Obj)) : Prop where
 S : SP w0 W g s x
 K : KeepBut w W g none
 H : ∀ q ∈ bs, W.heap[q.1]? = some q.2
 N : ∀ q ∈ bs, q.1 ≠ g ∧ w.heap.size ≤ q.1
section
variable {w0 w W : World} {g : Nat} {s : ByteArray} {x : Sc} {bs : List (Nat × Obj)}
theorem PF.start (h : SP w0 w g s x) : PF w0 w w g s x [] := ⟨h, KeepBut.refl _ _ _, fun q hq => by simp at hq, fun q hq => by simp at hq⟩
theorem PF.drew (h : PF w0 w W g s x bs) : PF w0 w W.drew g s x bs := ⟨h.S.drew, keep_drew h.K, h.H, h.N⟩
theorem PF.drewN (h : PF w0 w W g s x bs) (n : Nat) : PF w0 w (W.drewN n) g s x bs := ⟨h.S.drewN n, keep_drewN h.K n, h.H, h.N⟩
theorem PF.alloc (h : PF w0 w W g s x bs) (o : Obj) : PF w0 w (W.alloc o) g s x bs := ⟨h.S.alloc o, keep_alloc h.K o, fun q hq => blk_alloc (h.H q hq) o, h.N⟩
theorem PF.make {b : Nat} (h : PF w0 w W g s x bs) (hb : W.heap.size = b) (o : Obj) : PF w0 w (W.alloc o) g s x (bs ++ [(b, o)]) := by
 subst hb
 refine ⟨h.S.alloc o, keep_alloc h.K o, fun q hq => ?_, fun q hq => ?_⟩
 ·rcases List.mem_append.1 hq with hq | hq
  ·exact blk_alloc (h.H q hq) o
  ·obtain rfl := List.mem_singleton.1 hq
   exact blk_new W o
 ·rcases List.mem_append.1 hq with hq | hq
  ·exact h.N q hq
  ·obtain rfl := List.mem_singleton.1 hq
   exact ⟨Nat.ne_of_gt h.S.lt, h.K.1⟩
theorem PF.turn {W' : World} {x' : Sc} (h : PF w0 w W g s x bs) (hS : SP w0 W' g s x') (hK : KeepBut W W' g none) : PF w0 w W' g s x' bs := ⟨hS, keepBut_then h.K hK, fun q hq => hK.blk (h.H q hq) (h.N q hq).1 (by simp), h.N⟩
theorem PF.has {b : Nat} {o : Obj} (h : PF w0 w W g s x bs) (hb : (b, o) ∈ bs) : W.heap[b]? = some o := h.H (b, o) hb
theorem PF.cell {b : Nat} {cs : Array Value} {t : TypeId} {v : Value} {i : Nat} (h : PF w0 w W g s x bs) (hb : (b, .cells cs t) ∈ bs) (hv : cs[i]? = some v) : W.cell? ⟨b, i, none⟩ = some v := (blk_cell (h.has hb) i).trans hv
theorem PF.less {bs' : List (Nat × Obj)} (h : PF w0 w W g s x bs) (hs : ∀ q ∈ bs', q ∈ bs) : PF w0 w W g s x bs' := ⟨h.S, h.K, fun q hq => h.H q (hs q hq), fun q hq => h.N q (hs q hq)⟩
theorem PF.put {W' : World} {b : Nat} {o : Obj} {bs' : List (Nat × Obj)} (h : PF w0 w W g s x bs) (hb : b ≠ g ∧ w.heap.size ≤ b) (h0 : w0.heap.size ≤ w.heap.size) (hz : W'.heap.size = W.heap.size) (ho : W'.heap[b]? = some o) (hr : ∀ k, k ≠ b → W'.heap[k]? = W.heap[k]?) (hw : Below w0.heap.size w0 W') (hs : ∀ q ∈ bs', q = (b, o) ∨ (q.1 ≠ b ∧ q ∈ bs)) : PF w0 w W' g s x bs' := by
 refine ⟨⟨⟨(hr g (fun e => hb.1 e.symm)).trans h.S.I.1, h.S.I.2⟩, hw, h.S.L, h.S.Z⟩, ⟨by rw [hz]; exact h.K.1, fun i hi hg hrow => (hr i (by omega)).trans (h.K.2 i hi hg hrow)⟩, fun q hq => ?_, fun q hq => ?_⟩
 ·rcases hs q hq with rfl | ⟨h1, h2⟩
  ·exact ho
  ·exact (hr q.1 h1).trans (h.H q h2)
 ·rcases hs q hq with rfl | ⟨h1, h2⟩
  ·exact hb
  ·exact h.N q h2
theorem PF.below {W' : World} (h : PF w0 w W g s x bs) (hb : Below W.heap.size W W') : PF w0 w W' g s x bs := h.turn (h.S.below hb) (KeepBut.of_below hb _ _)
theorem PF.set1 {b i : Nat} {cs : Array Value} {t : TypeId} {v : Value} {bs' : List (Nat × Obj)} (h : PF w0 w W g s x bs) (h0 : w0.heap.size ≤ w.heap.size) (hb : (b, .cells cs t) ∈ bs) (hs : ∀ q ∈ bs', q = (b, .cells (cs.setIfInBounds i v) t) ∨ (q.1 ≠ b ∧ q ∈ bs)) : PF w0 w (W.setCell ⟨b, i, none⟩ v) g s x bs' :=
 h.put (h.N _ hb) h0 (by simp [World.setCell]) (blk_set (h.has hb) i v) (fun k hk => Below.heap_setCell W ⟨b, i, none⟩ v k hk) (below_set h.S.B (Nat.le_trans h0 (h.N _ hb).2)) hs
theorem PF.words {l1 : List ByteArray} {cs : Array Value} {n b : Nat} (h : PF w0 w W g s x bs) (hz : W.heap.size = b) (hn : l1.length = n) (hl : n ≤ 9223372036854775807) (hcs : (l1.map Value.string).toArray = cs) :
  Calls Tryd.prog 36 #[.pointer (some ⟨g, 0, none⟩), .slice (some ⟨b, 0, none⟩) n n] (W.alloc (.cells cs 9)) fun e w' => e = .returned (.int .i64 (scW s l1 x).1) ∧ PF w0 w w' g s (scW s l1 x).2 bs :=
 (h.S.words' hz hn hl hcs).mono fun e w' ⟨he, hS, hK⟩ => ⟨he, h.turn hS hK⟩
end
end Go.Proofs.YtlfokdbnbmebiaaDoor.Q
end
section
namespace Go.Proofs.YtlfokdbnbmebiaaDoor.Q
open Go.RowKit Go.Proofs.YtlfokdbnbmebiaaDoorW.PrintWords Go.Proofs.YtlfokdbnbmebiaaDoorW.PrintLast Go.Proofs.YtlfokdbnbmebiaaDoorW.PrintMore
set_option maxRecDepth 100000
theorem scWordLoop_spec {s : ByteArray} {F : Nat} {l : List ByteArray} : ∀ (k j : Nat), j ≤ (scWordLoop s F l k j).2.1 ∧ ((scWordLoop s F l k j).1 = true → j < (scWordLoop s F l k j).2.1 ∧ 0 ≤ (scWordLoop s F l k j).2.2 ∧ (scWordLoop s F l k j).2.2 < (l.length : Int))
 | 0, j => ⟨Nat.le_refl _, fun h => by simp [scWordLoop] at h⟩
 | k + 1, j => by
  rw [scWordLoop]
  split
  ·split
   ·have h := scWordLoop_spec (s := s) (F := F) (l := l) k (j + 1)
    exact ⟨by omega, fun h2 => by have := h.2 h2; omega⟩
   ·rename_i h1
    refine ⟨by simp, fun _ => ⟨by simp, by simp only; omega, ?_⟩⟩
    show scFind (s.extract F (j + 1)) l 0 (-1) < (l.length : Int)
    rcases scFind_spec (s.extract F (j + 1)) l 0 (-1) with ⟨i, hi, _, h4⟩ | ⟨_, h4⟩
    ·rw [h4]; omega
    ·exact absurd h1 (by rw [h4]; decide)
  ·exact ⟨Nat.le_refl _, fun h => by simp at h⟩
theorem scW_ge (s : ByteArray) (l : List ByteArray) (x : Sc) : x.1 ≤ (scW s l x).2.1 := by
 unfold scW
 split
 ·exact Nat.le_refl _
 ·exact (scWordLoop_spec _ _).1
theorem scW_cases (s : ByteArray) (l : List ByteArray) (x : Sc) : ((scW s l x).2.2 = true ∧ (scW s l x).1 = -1) ∨ (x.2 = false ∧ (scW s l x).2.2 = false ∧ x.1 < (scW s l x).2.1 ∧ 0 ≤ (scW s l x).1 ∧ (scW s l x).1 < (l.length : Int)) := by
 unfold scW
 by_cases hx : x.2 = true
 ·rw [if_pos hx]; exact .inl ⟨hx, rfl⟩
 ·rw [if_neg hx]
  cases hb : (scWord s x.1 l).1 with
  | false => exact .inl ⟨rfl, rfl⟩
  | true =>
   have h := (scWordLoop_spec (s := s) (F := x.1) (l := l) (s.size + 2) x.1).2 hb
   exact .inr ⟨by simpa using hx, rfl, h.1, h.2.1, h.2.2⟩
theorem scRun_ge (p : Int → Bool) (s : ByteArray) : ∀ (k j : Nat), j ≤ scRun p s k j
 | 0, j => Nat.le_refl _
 | k + 1, j => by
  rw [scRun]
  split
  ·have := scRun_ge p s k (j + 1); omega
  ·exact Nat.le_refl _
theorem scNum_ge (s : ByteArray) (i : Nat) : i ≤ (scNum s i).2.1 := by
 unfold scNum
 split
 ·simp
 ·split
  ·split
   ·have := scRun_ge pDigit s 9 (i + 1 + 1); simp only; omega
   ·simp
  ·split
   ·have := scRun_ge pDigit s 9 (i + 1); simp only; omega
   ·exact Nat.le_refl _
theorem scN_ge (s : ByteArray) (x : Sc) : x.1 ≤ (scN s x).2.1 := by
 unfold scN
 split
 ·exact Nat.le_refl _
 ·exact scNum_ge _ _
theorem scIdLoop_ge (s : ByteArray) (i : Nat) : ∀ (k j : Nat), j ≤ (scIdLoop s i k j).2
 | 0, j => Nat.le_refl _
 | k + 1, j => by
  rw [scIdLoop]
  split
  ·split
   ·have := scIdLoop_ge s i k (j + 1); omega
   ·split
    ·split
     ·have := scIdLoop_ge s i k (j + 2); omega
     ·simp
    ·exact Nat.le_refl _
  ·exact Nat.le_refl _
theorem scI_ge (s : ByteArray) (x : Sc) : x.1 ≤ (scI s x).2.1 := by
 unfold scI
 split
 ·exact Nat.le_refl _
 ·show x.1 ≤ (scIdent s x.1).2
  unfold scIdent
  split
  ·have := scIdLoop_ge s x.1 39 (x.1 + 1); omega
  ·exact Nat.le_refl _
end Go.Proofs.YtlfokdbnbmebiaaDoor.Q
end
section
namespace Go.Proofs.YtlfokdbnbmebiaaDoor.Q
open Go.RowKit Go.Proofs.YtlfokdbnbmebiaaDoorW.PrintWords Go.Proofs.YtlfokdbnbmebiaaDoorW.PrintLast Go.Proofs.YtlfokdbnbmebiaaDoorW.PrintMore
set_option maxRecDepth 100000
def wSp : List ByteArray := [⟨#[32]⟩]
def wNl : List ByteArray := [⟨#[10]⟩]
def pcN (s : ByteArray) (x : Sc) : Int × Sc := scN s (scW s wSp x).2
def pcI (s : ByteArray) (x : Sc) : ByteArray × Sc := scI s (scW s wSp x).2
def pcC (s : ByteArray) (l : List ByteArray) (x : Sc) : Int × Sc := scW s l (scW s wSp x).2
theorem p_number (w0 w : World) (g : Nat) (s : ByteArray) (x : Sc) (h : SP w0 w g s x) :
  Calls Tryd.prog 37 #[.agg #[.pointer (some ⟨g, 0, none⟩)]] w fun e w' => e = .returned (.int .i64 (pcN s x).1) ∧ SP w0 w' g s (pcN s x).2 ∧ KeepBut w w' g none := by
 have HS := Aside0.mk (h.alloc (.cells #[.pointer (some ⟨g, 0, none⟩)] 47))
 have hl := h.lt
 clear h
 go_enter Tryd.func37, Tryd.ntmps37
 go_wp2_with fail
 refine Calls.mono (HS.out.words' (b := w.heap.size + 1) (l1 := wSp) (n := 1) (by simp) rfl (by decide) rfl) ?_
 rintro e w1 ⟨rfl, hS, hK⟩
 have hc := keep_cell hK (cell_new1 w _ _) (Nat.ne_of_gt hl)
 have HS1 := Aside0.mk hS
 have HK1 := Aside0.mk (keepBut_alloc hK)
 clear HS hS hK
 go_wp2_with fail
 refine Calls.mono HS1.out.number ?_
 rintro e w2 ⟨rfl, hS, hK⟩
 have HS2 := Aside0.mk hS
 have HK2 := Aside0.mk (keepBut_then HK1.out hK)
 clear HS1 HK1 hS hK hc
 go_wp2_with fail
 go_ret
 exact ⟨rfl, HS2.out, HK2.out⟩
theorem p_identifier (w0 w : World) (g : Nat) (s : ByteArray) (x : Sc) (h : SP w0 w g s x) :
  Calls Tryd.prog 39 #[.agg #[.pointer (some ⟨g, 0, none⟩)]] w fun e w' => e = .returned (.string (pcI s x).1) ∧ SP w0 w' g s (pcI s x).2 ∧ KeepBut w w' g none := by
 have HS := Aside0.mk (h.alloc (.cells #[.pointer (some ⟨g, 0, none⟩)] 47))
 have hl := h.lt
 clear h
 go_enter Tryd.func39, Tryd.ntmps39
 go_wp2_with fail
 refine Calls.mono (HS.out.words' (b := w.heap.size + 1) (l1 := wSp) (n := 1) (by simp) rfl (by decide) rfl) ?_
 rintro e w1 ⟨rfl, hS, hK⟩
 have hc := keep_cell hK (cell_new1 w _ _) (Nat.ne_of_gt hl)
 have HS1 := Aside0.mk hS
 have HK1 := Aside0.mk (keepBut_alloc hK)
 clear HS hS hK
 go_wp2_with fail
 refine Calls.mono HS1.out.ident ?_
 rintro e w2 ⟨rfl, hS, hK⟩
 have HS2 := Aside0.mk hS
 have HK2 := Aside0.mk (keepBut_then HK1.out hK)
 clear HS1 HK1 hS hK hc
 go_wp2_with fail
 go_ret
 exact ⟨rfl, HS2.out, HK2.out⟩
theorem p_choice (w0 w : World) (g : Nat) (s : ByteArray) (x : Sc) (h : SP w0 w g s x) (A1 : Option Addr) (c1 n : Nat) (l1 : List ByteArray) (hn : l1.length = n) (hr1 : ∀ W', KeepBut w W' g none → Kd.string.C W' A1 l1.length l1) (hf1 : ∀ ad, A1 = some ad → 0 < l1.length → ad.block ≠ g) :
  Calls Tryd.prog 40 #[.agg #[.pointer (some ⟨g, 0, none⟩)], .slice A1 n c1] w fun e w' => e = .returned (.int .i64 (pcC s l1 x).1) ∧ SP w0 w' g s (pcC s l1 x).2 ∧ KeepBut w w' g none := by
 have HS := Aside0.mk (h.alloc (.cells #[.pointer (some ⟨g, 0, none⟩)] 47))
 have HR := Aside0.mk hr1
 have hl := h.lt
 clear h hr1
 go_enter Tryd.func40, Tryd.ntmps40
 go_wp2_with fail
 refine Calls.mono (HS.out.words' (b := w.heap.size + 1) (l1 := wSp) (n := 1) (by simp) rfl (by decide) rfl) ?_
 rintro e w1 ⟨rfl, hS, hK⟩
 have hc := keep_cell hK (cell_new1 w _ _) (Nat.ne_of_gt hl)
 have HS1 := Aside0.mk hS
 have HK1 := Aside0.mk (keepBut_alloc hK)
 clear HS hS hK
 go_wp2_with fail
 refine Calls.mono (HS1.out.word hn (HR.out _ HK1.out) hf1) ?_
 rintro e w2 ⟨rfl, hS, hK⟩
 have HS2 := Aside0.mk hS
 have HK2 := Aside0.mk (keepBut_then HK1.out hK)
 clear HS1 HK1 hS hK hc
 go_wp2_with fail
 go_ret
 exact ⟨rfl, HS2.out, HK2.out⟩
section
variable {w0 w W : World} {g : Nat} {s : ByteArray} {x : Sc} {bs : List (Nat × Obj)}
theorem PF.num (h : PF w0 w W g s x bs) : Calls Tryd.prog 37 #[.agg #[.pointer (some ⟨g, 0, none⟩)]] W fun e w' => e = .returned (.int .i64 (pcN s x).1) ∧ PF w0 w w' g s (pcN s x).2 bs :=
 (p_number w0 W g s x h.S).mono fun e w' ⟨he, hS, hK⟩ => ⟨he, h.turn hS hK⟩
theorem PF.idt (h : PF w0 w W g s x bs) : Calls Tryd.prog 39 #[.agg #[.pointer (some ⟨g, 0, none⟩)]] W fun e w' => e = .returned (.string (pcI s x).1) ∧ PF w0 w w' g s (pcI s x).2 bs :=
 (p_identifier w0 W g s x h.S).mono fun e w' ⟨he, hS, hK⟩ => ⟨he, h.turn hS hK⟩
theorem PF.choices {l1 : List ByteArray} {cs : Array Value} {n b : Nat} (h : PF w0 w W g s x bs) (hz : W.heap.size = b) (hn : l1.length = n) (hl : n ≤ 9223372036854775807) (hcs : (l1.map Value.string).toArray = cs) :
  Calls Tryd.prog 40 #[.agg #[.pointer (some ⟨g, 0, none⟩)], .slice (some ⟨b, 0, none⟩) n n] (W.alloc (.cells cs 9)) fun e w' => e = .returned (.int .i64 (pcC s l1 x).1) ∧ PF w0 w w' g s (pcC s l1 x).2 bs := by
 subst hz
 subst hcs
 have hg := h.S.lt
 refine (p_choice w0 _ g s x (h.S.alloc (.cells (l1.map Value.string).toArray 9)) (some ⟨W.heap.size, 0, none⟩) n n l1 hn (fun W' hk => ?_) (fun ad e _ => by obtain rfl := Option.some.inj e; exact Nat.ne_of_gt hg)).mono fun e w' ⟨he, hS, hK⟩ => ⟨he, (h.alloc _).turn hS hK⟩
 exact strings_C (hk.blk (blk_new W _) (Nat.ne_of_gt hg) (by simp)) (by omega) (fun j hj => by simp [List.getElem?_eq_getElem hj, List.getD])
end
theorem pols_C {W : World} (hT : StrsAt W 0 tPols) : Kd.string.C W (some ⟨0, 0, none⟩) tPols.length tPols :=
 Kd.C_of_reads (d := ByteArray.empty) ⟨rfl, by decide, fun _ => ⟨_, rfl, fun j hj => by
  have h2 := hT.cell j
  have e : (Addr.add ⟨0, 0, none⟩ j) = ⟨0, j, none⟩ := by
   unfold Addr.add
   split
   ·rename_i h0; subst h0; rfl
   ·simp
  rw [e, h2, List.getElem?_map, List.getD, List.getElem?_eq_getElem (show j < tPols.length from hj)]
  rfl⟩⟩
theorem PF.pols {w0 w W : World} {g : Nat} {s : ByteArray} {x : Sc} {bs : List (Nat × Obj)} (h : PF w0 w W g s x bs) (hT : Tabs w0) :
  Calls Tryd.prog 40 #[.agg #[.pointer (some ⟨g, 0, none⟩)], .slice (some ⟨0, 0, none⟩) 3 3] W fun e w' => e = .returned (.int .i64 (pcC s tPols x).1) ∧ PF w0 w w' g s (pcC s tPols x).2 bs := by
 have hlt := hT.pols.lt
 have hge := h.S.I.ge
 refine (p_choice w0 W g s x h.S (some ⟨0, 0, none⟩) 3 3 tPols rfl (fun W' hk => pols_C ?_) (fun ad e _ => by obtain rfl := Option.some.inj e; show 0 ≠ g; omega)).mono fun e w' ⟨he, hS, hK⟩ => ⟨he, h.turn hS hK⟩
 obtain ⟨t, fr, hb⟩ := hT.pols.below h.S.B
 exact ⟨t, fr, hk.blk hb (by omega) (by simp)⟩
end Go.Proofs.YtlfokdbnbmebiaaDoor.Q
end
section
namespace Go.Proofs.YtlfokdbnbmebiaaDoor.Q
open Go.RowKit Go.Proofs.YtlfokdbnbmebiaaDoorW.PrintWords Go.Proofs.YtlfokdbnbmebiaaDoorW.PrintLast Go.Proofs.YtlfokdbnbmebiaaDoorW.PrintMore
set_option maxRecDepth 100000
def wkName (n : Int) : ByteArray := if 0 ≤ n ∧ n < 7 then tDays.getD n.toNat ⟨#[]⟩ else ⟨#[]⟩
theorem wk_name (w : World) (n : Int) (hT : Tabs w) : Calls Tryd.prog 60 #[.int .i64 n] w fun e w' => e = .returned (.string (wkName n)) ∧ w' = w := by
 by_cases h1 : n < 0
 ·have hn : wkName n = ⟨#[]⟩ := by unfold wkName; rw [if_neg (by omega)]
  rw [hn]
  clear hn hT
  go_enter Tryd.func60, Tryd.ntmps60
  go_wp2_with fail
  go_ret
  exact ⟨rfl, rfl⟩
 ·by_cases h2 : n < 7
  ·obtain ⟨k, rfl⟩ : ∃ k : Nat, n = (k : Int) := ⟨n.toNat, by omega⟩
   have hk : k < 7 := by omega
   have hc : w.cell? ⟨1, k, none⟩ = some (.string (wkName (k : Int))) := by
    rw [hT.days.cell k]
    unfold wkName
    rw [if_pos (by omega), Int.toNat_natCast]
    rw [List.getElem?_map, List.getD, List.getElem?_eq_getElem (show k < tDays.length from hk)]
    rfl
   obtain ⟨v, hv⟩ : ∃ v, wkName (k : Int) = v := ⟨_, rfl⟩
   rw [hv] at hc ⊢
   clear hv hT
   go_enter Tryd.func60, Tryd.ntmps60
   go_wp2_with fail
   go_ret
   exact ⟨rfl, rfl⟩
  ·have hn : wkName n = ⟨#[]⟩ := by unfold wkName; rw [if_neg (by omega)]
   rw [hn]
   clear hn hT
   go_enter Tryd.func60, Tryd.ntmps60
   go_wp2_with fail
   go_ret
   exact ⟨rfl, rfl⟩
def wKinds : List ByteArray := [⟨#[102, 105, 120, 101, 100]⟩, ⟨#[101, 97, 115, 116, 101, 114]⟩, ⟨#[110, 116, 104]⟩]
def pcA1 (s : ByteArray) (k : Int) (x : Sc) : S39 × Sc :=
 if k = 0 then (⟨1, (pcN s x).1, (pcN s (pcN s x).2).1, 0, 0, 0⟩, (pcN s (pcN s x).2).2)
 else if k = 1 then (⟨2, 0, 0, (pcN s x).1, 0, 0⟩, (pcN s x).2)
 else if k = 2 then (⟨3, (pcN s (pcN s (pcC s tDays x).2).2).1, (pcN s (pcN s (pcN s (pcC s tDays x).2).2).2).1, 0, (pcC s tDays x).1, (pcN s (pcC s tDays x).2).1⟩, (pcN s (pcN s (pcN s (pcC s tDays x).2).2).2).2)
 else (z39, x)
def pcA (s : ByteArray) (x : Sc) : S39 × Sc :=
 ((pcA1 s (pcC s wKinds x).1 (pcC s wKinds x).2).1, (scW s wNl (pcA1 s (pcC s wKinds x).1 (pcC s wKinds x).2).2).2)
theorem six {W : World} {b : Nat} {t : TypeId} {a0 a1 a2 a3 a4 a5 : Value} (h : W.heap[b]? = some (.cells #[a0, a1, a2, a3, a4, a5] t (0, 0))) :
  (W.cell? ⟨b, 0, none⟩ = some a0 ∧ W.cell? ⟨b, 1, none⟩ = some a1 ∧ W.cell? ⟨b, 2, none⟩ = some a2 ∧ W.cell? ⟨b, 3, none⟩ = some a3 ∧ W.cell? ⟨b, 4, none⟩ = some a4 ∧ W.cell? ⟨b, 5, none⟩ = some a5) ∧
  (W.frozen? ⟨b, 0, none⟩ = false ∧ W.frozen? ⟨b, 1, none⟩ = false ∧ W.frozen? ⟨b, 2, none⟩ = false ∧ W.frozen? ⟨b, 3, none⟩ = false ∧ W.frozen? ⟨b, 4, none⟩ = false ∧ W.frozen? ⟨b, 5, none⟩ = false) :=
 ⟨⟨blk_cell h 0, blk_cell h 1, blk_cell h 2, blk_cell h 3, blk_cell h 4, blk_cell h 5⟩, ⟨blk_frozen h 0, blk_frozen h 1, blk_frozen h 2, blk_frozen h 3, blk_frozen h 4, blk_frozen h 5⟩⟩
def set6 (W : World) (b : Nat) (a0 a1 a2 a3 a4 a5 : Value) : World := (((((W.setCell ⟨b, 0, none⟩ a0).setCell ⟨b, 1, none⟩ a1).setCell ⟨b, 2, none⟩ a2).setCell ⟨b, 3, none⟩ a3).setCell ⟨b, 4, none⟩ a4).setCell ⟨b, 5, none⟩ a5
theorem set6_size (W : World) (b : Nat) (a0 a1 a2 a3 a4 a5 : Value) : (set6 W b a0 a1 a2 a3 a4 a5).heap.size = W.heap.size := by simp [set6, World.setCell]
theorem set6_far (W : World) (b : Nat) (a0 a1 a2 a3 a4 a5 : Value) (k : Nat) (hk : k ≠ b) : (set6 W b a0 a1 a2 a3 a4 a5).heap[k]? = W.heap[k]? := by
 unfold set6
 rw [Below.heap_setCell _ _ _ _ hk, Below.heap_setCell _ _ _ _ hk, Below.heap_setCell _ _ _ _ hk, Below.heap_setCell _ _ _ _ hk, Below.heap_setCell _ _ _ _ hk, Below.heap_setCell _ _ _ _ hk]
theorem set6_blk {W : World} {b : Nat} {t : TypeId} {c0 c1 c2 c3 c4 c5 : Value} (h : W.heap[b]? = some (.cells #[c0, c1, c2, c3, c4, c5] t (0, 0))) (a0 a1 a2 a3 a4 a5 : Value) : (set6 W b a0 a1 a2 a3 a4 a5).heap[b]? = some (.cells #[a0, a1, a2, a3, a4, a5] t (0, 0)) := by
 have h := blk_set (blk_set (blk_set (blk_set (blk_set (blk_set h 0 a0) 1 a1) 2 a2) 3 a3) 4 a4) 5 a5
 simpa [set6] using h
theorem set6_cell {W : World} {b k i : Nat} {v : Value} (a0 a1 a2 a3 a4 a5 : Value) (h : W.cell? ⟨k, i, none⟩ = some v) (hk : k ≠ b) : ((((((W.setCell ⟨b, 0, none⟩ a0).setCell ⟨b, 1, none⟩ a1).setCell ⟨b, 2, none⟩ a2).setCell ⟨b, 3, none⟩ a3).setCell ⟨b, 4, none⟩ a4).setCell ⟨b, 5, none⟩ a5).cell? ⟨k, i, none⟩ = some v :=
 (show (set6 W b a0 a1 a2 a3 a4 a5).cell? ⟨k, i, none⟩ = some v from (World.cell?_of_block (w := W) (w' := set6 W b a0 a1 a2 a3 a4 a5) (a := ⟨k, i, none⟩) (set6_far W b a0 a1 a2 a3 a4 a5 k hk)).trans h)
theorem set6_below {w0 W : World} {b : Nat} (h : Below w0.heap.size w0 W) (hb : w0.heap.size ≤ b) (a0 a1 a2 a3 a4 a5 : Value) : Below w0.heap.size w0 (set6 W b a0 a1 a2 a3 a4 a5) := below_set (below_set (below_set (below_set (below_set (below_set h hb) hb) hb) hb) hb) hb
theorem three {N : Nat} {o1 o2 o3 o3' : Obj} : ∀ q ∈ [(N, o1), (N + 1, o2), (N + 1 + 1, o3')], q = (N + 1 + 1, o3') ∨ (q.1 ≠ N + 1 + 1 ∧ q ∈ [(N, o1), (N + 1, o2), (N + 1 + 1, o3)]) := by
 intro q hq
 have h1 : N ≠ N + 1 + 1 := by omega
 have h2 : N + 1 ≠ N + 1 + 1 := by omega
 simp only [List.mem_cons, List.not_mem_nil, or_false] at hq
 rcases hq with rfl | rfl | rfl
 ·exact .inr ⟨h1, by simp⟩
 ·exact .inr ⟨h2, by simp⟩
 ·exact .inl rfl
theorem PF.set6 {w0 w W : World} {g : Nat} {s : ByteArray} {x : Sc} {bs bs' : List (Nat × Obj)} {b : Nat} {t : TypeId} {c0 c1 c2 c3 c4 c5 : Value} (h : PF w0 w W g s x bs) (h0 : w0.heap.size ≤ w.heap.size) (hb : (b, .cells #[c0, c1, c2, c3, c4, c5] t) ∈ bs) (a0 a1 a2 a3 a4 a5 : Value) (hs : ∀ q ∈ bs', q = (b, .cells #[a0, a1, a2, a3, a4, a5] t) ∨ (q.1 ≠ b ∧ q ∈ bs)) :
  PF w0 w (((((((W.setCell ⟨b, 0, none⟩ a0).setCell ⟨b, 1, none⟩ a1).setCell ⟨b, 2, none⟩ a2).setCell ⟨b, 3, none⟩ a3).setCell ⟨b, 4, none⟩ a4).setCell ⟨b, 5, none⟩ a5)) g s x bs' :=
 show PF w0 w (Q.set6 W b a0 a1 a2 a3 a4 a5) g s x bs' from h.put (h.N _ hb) h0 (set6_size _ _ _ _ _ _ _ _) (set6_blk (h.has hb) _ _ _ _ _ _) (fun k hk => set6_far _ _ _ _ _ _ _ _ k hk) (set6_below h.S.B (Nat.le_trans h0 (h.N _ hb).2) _ _ _ _ _ _) hs
theorem R_sl_ {α : Type} {d : Kd α} {e base : Nat} {ok : Nat → Prop} {w : World} {v : Value} {xs : List α} (h : d.R e w base ok v xs) (n : Nat) (hn : xs.length = n) : ∃ A c, v = .slice A n c := by
 subst hn; exact Kd.R_slice h
theorem foot_ne_ {W : World} {A : Option Addr} {g : Nat} (h : ∀ W', KeepBut W W' g none → Kd.string.C W' A 7 tDays) : ∀ ad, A = some ad → ad.block ≠ g := by
 intro ad e
 subst e
 exact Kd.foot_ne h (by decide) (by decide)
theorem p_anchor (w0 w : World) (g : Nat) (s : ByteArray) (x : Sc) (h : SP w0 w g s x) (hT : Tabs w0) :
  Calls Tryd.prog 41 #[.agg #[.pointer (some ⟨g, 0, none⟩)]] w fun e w' => e = .returned (.agg #[.int .i64 (pcA s x).1.f0, .int .i64 (pcA s x).1.f1, .int .i64 (pcA s x).1.f2, .int .i64 (pcA s x).1.f3, .int .i64 (pcA s x).1.f4, .int .i64 (pcA s x).1.f5]) ∧ SP w0 w' g s (pcA s x).2 ∧ KeepBut w w' g none := by
 obtain ⟨k, hk⟩ : ∃ k, k = (pcC s wKinds x).1 := ⟨_, rfl⟩
 obtain ⟨y, hy⟩ : ∃ y, y = (pcC s wKinds x).2 := ⟨_, rfl⟩
 have hA : pcA s x = ((pcA1 s k y).1, (scW s wNl (pcA1 s k y).2).2) := by rw [pcA, ← hk, ← hy]
 rw [hA]
 obtain ⟨N, hN⟩ : ∃ N, N = w.heap.size := ⟨_, rfl⟩
 obtain ⟨W, hW⟩ : ∃ W, W = ((w.alloc (.cells #[.pointer (some ⟨g, 0, none⟩)] 47)).alloc (.cells #[.int .i64 0, .int .i64 0, .int .i64 0, .int .i64 0, .int .i64 0, .int .i64 0] 39)).alloc (.cells #[.int .i64 0, .int .i64 0, .int .i64 0, .int .i64 0, .int .i64 0, .int .i64 0] 39) := ⟨_, rfl⟩
 have hF : PF w0 w W g s x [(N, .cells #[.pointer (some ⟨g, 0, none⟩)] 47), (N + 1, .cells #[.int .i64 0, .int .i64 0, .int .i64 0, .int .i64 0, .int .i64 0, .int .i64 0] 39), (N + 1 + 1, .cells #[.int .i64 0, .int .i64 0, .int .i64 0, .int .i64 0, .int .i64 0, .int .i64 0] 39)] := by
  rw [hW]
  exact ((((PF.start h).make hN.symm (.cells #[.pointer (some ⟨g, 0, none⟩)] 47)).make (b := N + 1) (by rw [World.size_alloc, hN]) (.cells #[.int .i64 0, .int .i64 0, .int .i64 0, .int .i64 0, .int .i64 0, .int .i64 0] 39)).make (b := N + 2) (by rw [World.size_alloc, World.size_alloc, hN]) (.cells #[.int .i64 0, .int .i64 0, .int .i64 0, .int .i64 0, .int .i64 0, .int .i64 0] 39))
 have HC := Aside0.mk (hF.choices (b := W.heap.size) (l1 := wKinds) (n := 3) rfl rfl (by decide) rfl)
 rw [← hk, ← hy] at HC
 have HN := Aside0.mk hN
 have HW := Aside0.mk hW
 have HT := Aside0.mk hT
 have hne : N ≠ N + 1 + 1 := by omega
 have H0 := Aside0.mk h.B.size
 have hbp := hF.cell (i := 0) (List.Mem.head _) rfl
 clear h hT hA hk hy hN hF
 by_cases k0 : k = 0
 ·subst k0
  have e0 : pcA1 s 0 y = (⟨1, (pcN s y).1, (pcN s (pcN s y).2).1, 0, 0, 0⟩, (pcN s (pcN s y).2).2) := if_pos rfl
  rw [e0]
  clear e0
  go_enter Tryd.func41, Tryd.ntmps41
  go_upto_region 2 with fail
  rw [← HW.out, ← HN.out]
  clear hW
  go_wp2_with fail
  refine Calls.mono HC.out ?_
  rintro e w1 ⟨rfl, h1⟩
  have HF := Aside0.mk h1
  have hbp := h1.cell (i := 0) (List.Mem.head _) rfl
  clear HC h1
  go_wp2_with fail
  go_region_held3 (fun w' => w'.cell? ⟨N, 0, none⟩ = some (.pointer (some ⟨g, 0, none⟩))) (first | (with_reducible exact HF.out.cell (i := 0) (List.Mem.head _) rfl) | (with_reducible exact set6_cell _ _ _ _ _ _ (HF.out.cell (i := 0) (List.Mem.head _) rfl) hne) | go_keep) (first | (go_at_call 37; (first | (with_reducible refine Calls.mono HF.out.num ?_) | (with_reducible refine Calls.mono HF.out.drew.num ?_)); rintro e w2 ⟨rfl, h2⟩; have n0_ := Aside0.mk h2; clear HF h2; have HF := n0_; clear n0_; obtain ⟨⟨e0, e1, e2, e3, e4, e5⟩, f0, f1, f2, f3, f4, f5⟩ := six (HF.out.has (List.Mem.tail _ (List.Mem.tail _ (List.Mem.head _))))))
  have h6 := HF.out.set6 (bs' := [(N, .cells #[.pointer (some ⟨g, 0, none⟩)] 47), (N + 1, .cells #[.int .i64 0, .int .i64 0, .int .i64 0, .int .i64 0, .int .i64 0, .int .i64 0] 39), (N + 1 + 1, .cells #[.int .i64 1, .int .i64 (pcN s y).1, .int .i64 (pcN s (pcN s y).2).1, .int .i64 0, .int .i64 0, .int .i64 0] 39)]) H0.out (List.Mem.tail _ (List.Mem.tail _ (List.Mem.head _))) (.int .i64 1) (.int .i64 (pcN s y).1) (.int .i64 (pcN s (pcN s y).2).1) (.int .i64 0) (.int .i64 0) (.int .i64 0) three
  generalize hW6 : World.setCell _ _ _ = W6 at h6 ⊢
  clear hW6 HF
  have hbp := h6.cell (i := 0) (List.Mem.head _) rfl
  have H6 := Aside0.mk h6
  clear h6
  go_wp2_with fail
  refine Calls.mono (H6.out.words (l1 := wNl) (n := 1) rfl rfl (by decide) rfl) ?_
  rintro e w7 ⟨rfl, h7⟩
  obtain ⟨⟨e0, e1, e2, e3, e4, e5⟩, f0, f1, f2, f3, f4, f5⟩ := six (h7.has (List.Mem.tail _ (List.Mem.tail _ (List.Mem.head _))))
  obtain ⟨⟨i0, i1, i2, i3, i4, i5⟩, j0, j1, j2, j3, j4, j5⟩ := six (h7.has (List.Mem.tail _ (List.Mem.head _)))
  have H7 := Aside0.mk h7
  clear H6 h7 hbp
  go_wp2_with fail
  have h8 := H7.out.set6 (bs' := []) H0.out (List.Mem.tail _ (List.Mem.head _)) (.int .i64 1) (.int .i64 (pcN s y).1) (.int .i64 (pcN s (pcN s y).2).1) (.int .i64 0) (.int .i64 0) (.int .i64 0) (fun q hq => by simp at hq)
  refine bodyPost_ret (results_cell_row rfl _ _ (N + 1) 39 #[.int .i64 1, .int .i64 (pcN s y).1, .int .i64 (pcN s (pcN s y).2).1, .int .i64 0, .int .i64 0, .int .i64 0] (0, 0) _ rfl (set6_blk (H7.out.has (List.Mem.tail _ (List.Mem.head _))) _ _ _ _ _ _) Tryd.underlying39 rfl (by kernel_rfl)) rfl ?_
  exact ⟨rfl, h8.S, h8.K⟩
 by_cases k1 : k = 1
 ·subst k1
  have e0 : pcA1 s 1 y = (⟨2, 0, 0, (pcN s y).1, 0, 0⟩, (pcN s y).2) := by unfold pcA1; rw [if_neg (by decide), if_pos rfl]
  rw [e0]
  clear e0
  go_enter Tryd.func41, Tryd.ntmps41
  go_upto_region 2 with fail
  rw [← HW.out, ← HN.out]
  clear hW
  go_wp2_with fail
  refine Calls.mono HC.out ?_
  rintro e w1 ⟨rfl, h1⟩
  have HF := Aside0.mk h1
  have hbp := h1.cell (i := 0) (List.Mem.head _) rfl
  clear HC h1
  go_wp2_with fail
  refine Calls.mono HF.out.num ?_
  rintro e w2 ⟨rfl, h2⟩
  have n0_ := Aside0.mk h2
  clear HF h2
  have HF := n0_
  clear n0_
  obtain ⟨⟨e0, e1, e2, e3, e4, e5⟩, f0, f1, f2, f3, f4, f5⟩ := six (HF.out.has (List.Mem.tail _ (List.Mem.tail _ (List.Mem.head _))))
  go_upto_region 15 with fail
  clear e0 e1 e2 e3 e4 e5 f0 f1 f2 f3 f4 f5
  have h6 := HF.out.set6 (bs' := [(N, .cells #[.pointer (some ⟨g, 0, none⟩)] 47), (N + 1, .cells #[.int .i64 0, .int .i64 0, .int .i64 0, .int .i64 0, .int .i64 0, .int .i64 0] 39), (N + 1 + 1, .cells #[.int .i64 2, .int .i64 0, .int .i64 0, .int .i64 (pcN s y).1, .int .i64 0, .int .i64 0] 39)]) H0.out (List.Mem.tail _ (List.Mem.tail _ (List.Mem.head _))) (.int .i64 2) (.int .i64 0) (.int .i64 0) (.int .i64 (pcN s y).1) (.int .i64 0) (.int .i64 0) three
  generalize hW6 : World.setCell _ _ _ = W6 at h6 ⊢
  clear hW6 HF
  have hbp := h6.cell (i := 0) (List.Mem.head _) rfl
  have H6 := Aside0.mk h6
  clear h6
  go_wp2_with fail
  refine Calls.mono (H6.out.words (l1 := wNl) (n := 1) rfl rfl (by decide) rfl) ?_
  rintro e w7 ⟨rfl, h7⟩
  obtain ⟨⟨e0, e1, e2, e3, e4, e5⟩, f0, f1, f2, f3, f4, f5⟩ := six (h7.has (List.Mem.tail _ (List.Mem.tail _ (List.Mem.head _))))
  obtain ⟨⟨i0, i1, i2, i3, i4, i5⟩, j0, j1, j2, j3, j4, j5⟩ := six (h7.has (List.Mem.tail _ (List.Mem.head _)))
  have H7 := Aside0.mk h7
  clear H6 h7 hbp
  go_wp2_with fail
  have h8 := H7.out.set6 (bs' := []) H0.out (List.Mem.tail _ (List.Mem.head _)) (.int .i64 2) (.int .i64 0) (.int .i64 0) (.int .i64 (pcN s y).1) (.int .i64 0) (.int .i64 0) (fun q hq => by simp at hq)
  refine bodyPost_ret (results_cell_row rfl _ _ (N + 1) 39 #[.int .i64 2, .int .i64 0, .int .i64 0, .int .i64 (pcN s y).1, .int .i64 0, .int .i64 0] (0, 0) _ rfl (set6_blk (H7.out.has (List.Mem.tail _ (List.Mem.head _))) _ _ _ _ _ _) Tryd.underlying39 rfl (by kernel_rfl)) rfl ?_
  exact ⟨rfl, h8.S, h8.K⟩
 by_cases k2 : k = 2
 ·subst k2
  have e0 : pcA1 s 2 y = (⟨3, (pcN s (pcN s (pcC s tDays y).2).2).1, (pcN s (pcN s (pcN s (pcC s tDays y).2).2).2).1, 0, (pcC s tDays y).1, (pcN s (pcC s tDays y).2).1⟩, (pcN s (pcN s (pcN s (pcC s tDays y).2).2).2).2) := by unfold pcA1; rw [if_neg (by decide), if_neg (by decide), if_pos rfl]
  rw [e0]
  clear e0
  go_enter Tryd.func41, Tryd.ntmps41
  go_upto_region 2 with fail
  rw [← HW.out, ← HN.out]
  clear hW
  go_wp2_with fail
  refine Calls.mono HC.out ?_
  rintro e w1 ⟨rfl, h1⟩
  have HF := Aside0.mk h1
  have hbp := h1.cell (i := 0) (List.Mem.head _) rfl
  clear HC h1
  go_wp2_with fail
  go_loopg [4, 23] 7 (fun kq v4 v23 w' => ∃ i : Nat, v23 = .int .i64 i ∧ Aside0 (i + kq = 7) ∧ ∃ A c, v4 = .slice A i c ∧ Aside0 (Kd.R Kd.string 9 w' w1.heap.size (fun _ => True) (.slice A i c) (tDays.take i) ∧ Below w1.heap.size w1 w'))
  case atStart => exact ⟨0, rfl, ⟨rfl⟩, none, 0, rfl, ⟨Kd.R_nil _ _ _ _ _, Below.refl _ _⟩⟩
  case round =>
  obtain ⟨i, rfl, HI, A, c, rfl, HR⟩ := hrel
  by_cases hi : i < 7
  ·obtain ⟨k1, rfl⟩ : ∃ m, gk = m + 1 := ⟨gk - 1, by have := HI.out; omega⟩
   have d1 : decide ((i : Int) < 7) = true := decide_eq_true (by omega)
   have d2 : decide (i < 7) = true := decide_eq_true hi
   have HWN := Aside0.mk (wk_name wr i (HT.out.below (HF.out.below HR.out.2).S.B))
   go_wp2_with (first | (go_at_call 60; refine Calls.mono HWN.out ?_; rintro e w3 ⟨rfl, rfl⟩) | (at_builtin; refine Kd.R_append Kd.string (w0 := w1) w1.heap.size rfl (.tmp 26) (.tmp 29) 55 9 (.string ⟨#[]⟩) 16 rfl Tryd.underlying55 info9 rfl (by decide) (by omega) (.slice A i c) (tDays.take i) (wkName i) [.string (wkName i)] (fun _ => True) (fun _ => False) rfl rfl rfl (fun _ h => h.elim) (fun _ _ => trivial) HR.out.1 HR.out.2 HR.out.2.size (by have : (tDays.take i).length ≤ 7 := (by simp only [List.length_take]; have := Nat.min_le_left i tDays.length; omega); omega) ?_; intro v1 w6 hr hb hg hat; have H1 := Aside0.mk (And.intro hr hb); clear hr hb hg hat))
   have e : tDays.take i ++ [wkName i] = tDays.take (i + 1) := by
    rw [List.take_succ_eq_append_getElem (show i < tDays.length from hi)]
    unfold wkName
    rw [if_pos (by omega), Int.toNat_natCast, List.getD, List.getElem?_eq_getElem (show i < tDays.length from hi)]
    rfl
   rw [e] at H1
   obtain ⟨A', c', rfl⟩ := R_sl_ H1.out.1 (i + 1) (by rw [List.length_take]; exact Nat.min_eq_left (by exact hi))
   go_roundg k1
   case measure => omega
   case rel => exact ⟨i + 1, by go_num, ⟨by have := HI.out; omega⟩, A', c', rfl, H1⟩
  ·obtain rfl : i = 7 := by have := HI.out; omega
   have HCH := Aside0.mk (Kd.C_foot_own (g := g) (Kd.R_bound HR.out.1) (fun k hk => by have h1 := hk.2.1; have h2 := HF.out.S.lt; omega))
   have hAg : ∀ ad, A = some ad → ad.block ≠ g := foot_ne_ HCH.out
   have n0_ := Aside0.mk (HF.out.below HR.out.2)
   clear HF
   have HF := n0_
   clear n0_ HI hi HR
   have hbp := HF.out.cell (i := 0) (List.Mem.head _) rfl
   have HCB := Aside0.mk (p_choice w0 wr.drew g s y HF.out.drew.S A c 7 tDays rfl (fun W' hk => HCH.out W' hk) (fun ad e _ => hAg ad e))
   go_wp2_with fail
   go_region_held3 (fun w' => w'.cell? ⟨N, 0, none⟩ = some (.pointer (some ⟨g, 0, none⟩))) (first | (with_reducible exact HF.out.cell (i := 0) (List.Mem.head _) rfl) | (with_reducible exact set6_cell _ _ _ _ _ _ (HF.out.cell (i := 0) (List.Mem.head _) rfl) hne) | go_keep) (first | (go_at_call 40; (with_reducible refine Calls.mono HCB.out ?_); rintro e w2 ⟨rfl, h2, h3⟩; have n0_ := Aside0.mk (HF.out.drew.turn h2 h3); clear HF h2 h3; have HF := n0_; clear n0_) | (go_at_call 37; (first | (with_reducible refine Calls.mono HF.out.num ?_) | (with_reducible refine Calls.mono HF.out.drew.num ?_)); rintro e w2 ⟨rfl, h2⟩; have n0_ := Aside0.mk h2; clear HF h2; have HF := n0_; clear n0_; obtain ⟨⟨e0, e1, e2, e3, e4, e5⟩, f0, f1, f2, f3, f4, f5⟩ := six (HF.out.has (List.Mem.tail _ (List.Mem.tail _ (List.Mem.head _))))))
   have h6 := HF.out.set6 (bs' := [(N, .cells #[.pointer (some ⟨g, 0, none⟩)] 47), (N + 1, .cells #[.int .i64 0, .int .i64 0, .int .i64 0, .int .i64 0, .int .i64 0, .int .i64 0] 39), (N + 1 + 1, .cells #[.int .i64 3, .int .i64 (pcN s (pcN s (pcC s tDays y).2).2).1, .int .i64 (pcN s (pcN s (pcN s (pcC s tDays y).2).2).2).1, .int .i64 0, .int .i64 (pcC s tDays y).1, .int .i64 (pcN s (pcC s tDays y).2).1] 39)]) H0.out (List.Mem.tail _ (List.Mem.tail _ (List.Mem.head _))) (.int .i64 3) (.int .i64 (pcN s (pcN s (pcC s tDays y).2).2).1) (.int .i64 (pcN s (pcN s (pcN s (pcC s tDays y).2).2).2).1) (.int .i64 0) (.int .i64 (pcC s tDays y).1) (.int .i64 (pcN s (pcC s tDays y).2).1) three
   generalize hW6 : World.setCell _ _ _ = W6 at h6 ⊢
   clear hW6 HF
   have hbp := h6.cell (i := 0) (List.Mem.head _) rfl
   have H6 := Aside0.mk h6
   clear h6
   go_wp2_with fail
   refine Calls.mono (H6.out.words (l1 := wNl) (n := 1) rfl rfl (by decide) rfl) ?_
   rintro e w7 ⟨rfl, h7⟩
   obtain ⟨⟨e0, e1, e2, e3, e4, e5⟩, f0, f1, f2, f3, f4, f5⟩ := six (h7.has (List.Mem.tail _ (List.Mem.tail _ (List.Mem.head _))))
   obtain ⟨⟨i0, i1, i2, i3, i4, i5⟩, j0, j1, j2, j3, j4, j5⟩ := six (h7.has (List.Mem.tail _ (List.Mem.head _)))
   have H7 := Aside0.mk h7
   clear H6 h7 hbp
   go_wp2_with fail
   have h8 := H7.out.set6 (bs' := []) H0.out (List.Mem.tail _ (List.Mem.head _)) (.int .i64 3) (.int .i64 (pcN s (pcN s (pcC s tDays y).2).2).1) (.int .i64 (pcN s (pcN s (pcN s (pcC s tDays y).2).2).2).1) (.int .i64 0) (.int .i64 (pcC s tDays y).1) (.int .i64 (pcN s (pcC s tDays y).2).1) (fun q hq => by simp at hq)
   refine bodyPost_ret (results_cell_row rfl _ _ (N + 1) 39 #[.int .i64 3, .int .i64 (pcN s (pcN s (pcC s tDays y).2).2).1, .int .i64 (pcN s (pcN s (pcN s (pcC s tDays y).2).2).2).1, .int .i64 0, .int .i64 (pcC s tDays y).1, .int .i64 (pcN s (pcC s tDays y).2).1] (0, 0) _ rfl (set6_blk (H7.out.has (List.Mem.tail _ (List.Mem.head _))) _ _ _ _ _ _) Tryd.underlying39 rfl (by kernel_rfl)) rfl ?_
   exact ⟨rfl, h8.S, h8.K⟩
 ·have e0 : pcA1 s k y = (⟨0, 0, 0, 0, 0, 0⟩, y) := by unfold pcA1; rw [if_neg k0, if_neg k1, if_neg k2]; rfl
  rw [e0]
  clear e0
  go_enter Tryd.func41, Tryd.ntmps41
  go_upto_region 2 with fail
  rw [← HW.out, ← HN.out]
  clear hW
  go_wp2_with fail
  refine Calls.mono HC.out ?_
  rintro e w1 ⟨rfl, h1⟩
  have HF := Aside0.mk h1
  have hbp := h1.cell (i := 0) (List.Mem.head _) rfl
  clear HC h1
  have h6 := HF.out
  clear HF
  have H6 := Aside0.mk h6
  clear h6
  go_wp2_with fail
  refine Calls.mono (H6.out.words (l1 := wNl) (n := 1) rfl rfl (by decide) rfl) ?_
  rintro e w7 ⟨rfl, h7⟩
  obtain ⟨⟨e0, e1, e2, e3, e4, e5⟩, f0, f1, f2, f3, f4, f5⟩ := six (h7.has (List.Mem.tail _ (List.Mem.tail _ (List.Mem.head _))))
  obtain ⟨⟨i0, i1, i2, i3, i4, i5⟩, j0, j1, j2, j3, j4, j5⟩ := six (h7.has (List.Mem.tail _ (List.Mem.head _)))
  have H7 := Aside0.mk h7
  clear H6 h7 hbp
  go_wp2_with fail
  have h8 := H7.out.set6 (bs' := []) H0.out (List.Mem.tail _ (List.Mem.head _)) (.int .i64 0) (.int .i64 0) (.int .i64 0) (.int .i64 0) (.int .i64 0) (.int .i64 0) (fun q hq => by simp at hq)
  refine bodyPost_ret (results_cell_row rfl _ _ (N + 1) 39 #[.int .i64 0, .int .i64 0, .int .i64 0, .int .i64 0, .int .i64 0, .int .i64 0] (0, 0) _ rfl (set6_blk (H7.out.has (List.Mem.tail _ (List.Mem.head _))) _ _ _ _ _ _) Tryd.underlying39 rfl (by kernel_rfl)) rfl ?_
  exact ⟨rfl, h8.S, h8.K⟩
end Go.Proofs.YtlfokdbnbmebiaaDoor.Q
end
section
namespace Go.Proofs.YtlfokdbnbmebiaaDoor.Q
open Go.RowKit Go.Proofs.YtlfokdbnbmebiaaDoorW.PrintWords Go.Proofs.YtlfokdbnbmebiaaDoorW.PrintLast Go.Proofs.YtlfokdbnbmebiaaDoorW.PrintMore
set_option maxRecDepth 100000
def wHead : List ByteArray := [⟨#[99, 97, 116, 97, 108, 111, 103, 117, 101, 10, 102, 114, 101, 101]⟩]
def wHeads : List ByteArray := [⟨#[101, 110, 100]⟩, ⟨#[102, 101, 97, 115, 116]⟩, ⟨#[115, 101, 97, 115, 111, 110]⟩]
def pcF (s : ByteArray) (x : Sc) : S43 × Sc :=
 (⟨(pcI s x).1, (pcN s (pcI s x).2).1, wrap64 ((pcC s tPols (pcN s (pcI s x).2).2).1 + 1), (pcA s (pcC s tPols (pcN s (pcI s x).2).2).2).1⟩, (pcA s (pcC s tPols (pcN s (pcI s x).2).2).2).2)
def pcS (s : ByteArray) (x : Sc) : S41 × Sc :=
 (⟨(pcI s x).1, (pcN s (pcI s x).2).1, (pcN s (pcN s (pcI s x).2).2).1, (pcA s (pcN s (pcN s (pcI s x).2).2).2).1⟩, (pcA s (pcN s (pcN s (pcI s x).2).2).2).2)
def catL (s : ByteArray) : Nat → Nat → List S41 → List S43 → Sc → List S41 × List S43 × Sc
 | 0, _, ls, lf, x => (ls, lf, x)
 | k + 1, n, ls, lf, x =>
  if x.2 = true then (ls, lf, x)
  else if (scW s (wHeads.take n) x).1 = 0 then (ls, lf, scE s (scW s wNl (scW s (wHeads.take n) x).2).2)
  else if (scW s (wHeads.take n) x).1 = 1 then catL s k 2 ls (lf ++ [(pcF s (scW s (wHeads.take n) x).2).1]) (pcF s (scW s (wHeads.take n) x).2).2
  else if (scW s (wHeads.take n) x).1 = 2 then catL s k n (ls ++ [(pcS s (scW s (wHeads.take n) x).2).1]) lf (pcS s (scW s (wHeads.take n) x).2).2
  else catL s k n ls lf (scW s (wHeads.take n) x).2
def pcCat (s : ByteArray) (x : Sc) : Int × List S41 × List S43 × Sc :=
 ((pcN s (scW s wHead x).2).1, catL s (s.size + 2) 3 [] [] (scW s wNl (pcN s (scW s wHead x).2).2).2)
theorem pcN_ge (s : ByteArray) (x : Sc) : x.1 ≤ (pcN s x).2.1 := Nat.le_trans (scW_ge s wSp x) (scN_ge s _)
theorem pcI_ge (s : ByteArray) (x : Sc) : x.1 ≤ (pcI s x).2.1 := Nat.le_trans (scW_ge s wSp x) (scI_ge s _)
theorem pcC_ge (s : ByteArray) (l : List ByteArray) (x : Sc) : x.1 ≤ (pcC s l x).2.1 := Nat.le_trans (scW_ge s wSp x) (scW_ge s l _)
theorem pcA1_ge (s : ByteArray) (k : Int) (x : Sc) : x.1 ≤ (pcA1 s k x).2.1 := by
 unfold pcA1
 split
 ·exact Nat.le_trans (pcN_ge s x) (pcN_ge s _)
 ·split
  ·exact pcN_ge s x
  ·split
   ·exact Nat.le_trans (pcC_ge s tDays x) (Nat.le_trans (pcN_ge s _) (Nat.le_trans (pcN_ge s _) (pcN_ge s _)))
   ·exact Nat.le_refl _
theorem pcA_ge (s : ByteArray) (x : Sc) : x.1 ≤ (pcA s x).2.1 := Nat.le_trans (pcC_ge s wKinds x) (Nat.le_trans (pcA1_ge s _ _) (scW_ge s wNl _))
theorem pcF_ge (s : ByteArray) (x : Sc) : x.1 ≤ (pcF s x).2.1 := Nat.le_trans (pcI_ge s x) (Nat.le_trans (pcN_ge s _) (Nat.le_trans (pcC_ge s tPols _) (pcA_ge s _)))
theorem pcS_ge (s : ByteArray) (x : Sc) : x.1 ≤ (pcS s x).2.1 := Nat.le_trans (pcI_ge s x) (Nat.le_trans (pcN_ge s _) (Nat.le_trans (pcN_ge s _) (pcA_ge s _)))
def left_ (s : ByteArray) (x : Sc) : Nat := (s.size - x.1) + (if x.2 = true then 0 else 1)
end Go.Proofs.YtlfokdbnbmebiaaDoor.Q
end
section
namespace Go.Proofs.YtlfokdbnbmebiaaDoor.Q
open Go.RowKit Go.Proofs.YtlfokdbnbmebiaaDoorW.PrintWords Go.Proofs.YtlfokdbnbmebiaaDoorW.PrintLast Go.Proofs.YtlfokdbnbmebiaaDoorW.PrintMore
set_option maxRecDepth 100000
structure CI (w0 w : World) (g N bh : Nat) (s : ByteArray) (fr : Int) (ls : List S41) (lf : List S43) (x : Sc) (v1 v2 : Value) (W : World) : Prop where
 S : SP w0 W g s x
 K : KeepBut w W g none
 P : W.heap[N]? = some (.cells #[.pointer (some ⟨g, 0, none⟩)] 47 (0, 0))
 C : W.heap[N + 1]? = some (.cells #[.int .i64 fr, v1, v2] 26 (0, 0))
 Hd : W.heap[bh]? = some (.cells #[.string ⟨#[101, 110, 100]⟩, .string ⟨#[102, 101, 97, 115, 116]⟩, .string ⟨#[115, 101, 97, 115, 111, 110]⟩] 9 (0, 0))
 Z : w.heap.size = N ∧ w0.heap.size ≤ N ∧ N + 2 ≤ bh
 R1 : Kd.R k41 41 W N (fun _ => True) v1 ls
 R2 : Kd.R k43 43 W N (fun _ => True) v2 lf
section
variable {w0 w W : World} {g N bh : Nat} {s : ByteArray} {fr : Int} {ls : List S41} {lf : List S43} {x : Sc} {v1 v2 : Value}
theorem CI.ne (h : CI w0 w g N bh s fr ls lf x v1 v2 W) : N ≠ g ∧ N + 1 ≠ g ∧ bh ≠ g :=
 ⟨(h.S.I.ne_blk h.P (by decide)).symm, (h.S.I.ne_blk h.C (by decide)).symm, (h.S.I.ne_blk h.Hd (by decide)).symm⟩
theorem CI.h0 (h : CI w0 w g N bh s fr ls lf x v1 v2 W) : w0.heap.size ≤ W.heap.size := h.S.B.size
theorem CI.turn {W' : World} {x' : Sc} (h : CI w0 w g N bh s fr ls lf x v1 v2 W) (hS : SP w0 W' g s x') (hK : KeepBut W W' g none) : CI w0 w g N bh s fr ls lf x' v1 v2 W' :=
 ⟨hS, keepBut_then h.K hK, hK.blk h.P h.ne.1 (by simp), hK.blk h.C h.ne.2.1 (by simp), hK.blk h.Hd h.ne.2.2 (by simp), h.Z,
  Kd.R_mono (Kd.R_keep (h.S.I.apart h.R1 (by decide)) hK (fun _ hk => hk.2)) (fun _ _ => trivial), Kd.R_mono (Kd.R_keep (h.S.I.apart h.R2 (by decide)) hK (fun _ hk => hk.2)) (fun _ _ => trivial)⟩
theorem CI.below {W' : World} (h : CI w0 w g N bh s fr ls lf x v1 v2 W) (hb : Below W.heap.size W W') : CI w0 w g N bh s fr ls lf x v1 v2 W' := h.turn (h.S.below hb) (KeepBut.of_below hb _ _)
theorem CI.drew (h : CI w0 w g N bh s fr ls lf x v1 v2 W) : CI w0 w g N bh s fr ls lf x v1 v2 W.drew := h.below (below_drew (Below.refl _ _))
theorem CI.cp (h : CI w0 w g N bh s fr ls lf x v1 v2 W) : W.cell? ⟨N, 0, none⟩ = some (.pointer (some ⟨g, 0, none⟩)) := blk_cell h.P 0
theorem CI.c0 (h : CI w0 w g N bh s fr ls lf x v1 v2 W) : W.cell? ⟨N + 1, 0, none⟩ = some (.int .i64 fr) := blk_cell h.C 0
theorem CI.c1 (h : CI w0 w g N bh s fr ls lf x v1 v2 W) : W.cell? ⟨N + 1, 1, none⟩ = some v1 := blk_cell h.C 1
theorem CI.c2 (h : CI w0 w g N bh s fr ls lf x v1 v2 W) : W.cell? ⟨N + 1, 2, none⟩ = some v2 := blk_cell h.C 2
theorem CI.fz (h : CI w0 w g N bh s fr ls lf x v1 v2 W) (i : Nat) : W.frozen? ⟨N + 1, i, none⟩ = false := blk_frozen h.C i
theorem CI.lits {l1 : List ByteArray} {cs : Array Value} {n b : Nat} (h : CI w0 w g N bh s fr ls lf x v1 v2 W) (hz : W.heap.size = b) (hn : l1.length = n) (hl : n ≤ 9223372036854775807) (hcs : (l1.map Value.string).toArray = cs) :
  Calls Tryd.prog 36 #[.pointer (some ⟨g, 0, none⟩), .slice (some ⟨b, 0, none⟩) n n] (W.alloc (.cells cs 9)) fun e w' => e = .returned (.int .i64 (scW s l1 x).1) ∧ CI w0 w g N bh s fr ls lf (scW s l1 x).2 v1 v2 w' ∧ KeepBut W w' g none :=
 (h.S.words' hz hn hl hcs).mono fun e w' ⟨he, hS, hK⟩ => ⟨he, h.turn hS hK, hK⟩
theorem CI.word {n c : Nat} (h : CI w0 w g N bh s fr ls lf x v1 v2 W) (hn : n ≤ 3) :
  Calls Tryd.prog 36 #[.pointer (some ⟨g, 0, none⟩), .slice (some ⟨bh, 0, none⟩) n c] W fun e w' => e = .returned (.int .i64 (scW s (wHeads.take n) x).1) ∧ CI w0 w g N bh s fr ls lf (scW s (wHeads.take n) x).2 v1 v2 w' ∧ KeepBut W w' g none := by
 have hl : (wHeads.take n).length = n := by simp [wHeads]; omega
 refine (h.S.word (A1 := some ⟨bh, 0, none⟩) (c1 := c) hl (strings_C h.Hd (by omega) (fun j hj => ?_)) (fun ad e _ => by obtain rfl := Option.some.inj e; exact h.ne.2.2)).mono fun e w' ⟨he, hS, hK⟩ => ⟨he, h.turn hS hK, hK⟩
 rw [hl] at hj
 rcases (show j = 0 ∨ j = 1 ∨ j = 2 from by omega) with rfl | rfl | rfl <;> (simp only [List.getD, List.getElem?_take, if_pos hj]; rfl)
def set3c (W : World) (b : Nat) (a0 a1 a2 : Value) : World := ((W.setCell ⟨b, 0, none⟩ a0).setCell ⟨b, 1, none⟩ a1).setCell ⟨b, 2, none⟩ a2
theorem set3c_far (W : World) (b : Nat) (a0 a1 a2 : Value) (k : Nat) (hk : k ≠ b) : (set3c W b a0 a1 a2).heap[k]? = W.heap[k]? := by
 unfold set3c
 rw [Below.heap_setCell _ _ _ _ hk, Below.heap_setCell _ _ _ _ hk, Below.heap_setCell _ _ _ _ hk]
theorem set3c_blk {W : World} {b : Nat} {t : TypeId} {c0 c1 c2 : Value} (h : W.heap[b]? = some (.cells #[c0, c1, c2] t (0, 0))) (a0 a1 a2 : Value) : (set3c W b a0 a1 a2).heap[b]? = some (.cells #[a0, a1, a2] t (0, 0)) := by
 have h := blk_set (blk_set (blk_set h 0 a0) 1 a1) 2 a2
 simpa [set3c] using h
theorem CI.fin (h : CI w0 w g N bh s fr ls lf x v1 v2 W) (a0 a1 a2 : Value) :
  Kd.R k41 41 (set3c W (N + 1) a0 a1 a2) w.heap.size (fun _ => True) v1 ls ∧ Kd.R k43 43 (set3c W (N + 1) a0 a1 a2) w.heap.size (fun _ => True) v2 lf ∧ SP w0 (set3c W (N + 1) a0 a1 a2) g s x ∧ KeepBut w (set3c W (N + 1) a0 a1 a2) g none := by
 obtain ⟨z1, z2, z3⟩ := h.Z
 have hn := h.ne.2.1
 rw [z1]
 refine ⟨Kd.R_mono (Kd.R_step (Kd.R_types h.R1 h.C (by decide)) (fun k hk _ => set3c_far _ _ _ _ _ k hk.2)) (fun _ _ => trivial), Kd.R_mono (Kd.R_step (Kd.R_types h.R2 h.C (by decide)) (fun k hk _ => set3c_far _ _ _ _ _ k hk.2)) (fun _ _ => trivial), ⟨⟨(set3c_far _ _ _ _ _ g (fun e => hn e.symm)).trans h.S.I.1, h.S.I.2⟩, ?_, h.S.L, h.S.Z⟩, ?_, fun i hi hg hr => ?_⟩
 ·exact below_set (below_set (below_set h.S.B (by omega)) (by omega)) (by omega)
 ·have e : (set3c W (N + 1) a0 a1 a2).heap.size = W.heap.size := by simp [set3c, World.setCell]
  rw [e]; exact h.K.1
 ·rw [set3c_far _ _ _ _ _ i (by omega)]
  exact h.K.2 i hi hg hr
theorem CI.other {W' : World} {b : Nat} (h : CI w0 w g N bh s fr ls lf x v1 v2 W) (hz : W'.heap.size = W.heap.size) (hr : ∀ k, k ≠ b → W'.heap[k]? = W.heap[k]?) (hw : Below w0.heap.size w0 W') (h1 : b ≠ g ∧ b ≠ N ∧ b ≠ N + 1 ∧ b ≠ bh) (hwb : w.heap.size ≤ b) (n1 : ∀ k, v1.ownBlock = some k → k ≠ b) (n2 : ∀ k, v2.ownBlock = some k → k ≠ b) : CI w0 w g N bh s fr ls lf x v1 v2 W' := by
 refine ⟨⟨⟨(hr g (fun e => h1.1 e.symm)).trans h.S.I.1, h.S.I.2⟩, hw, h.S.L, h.S.Z⟩, ⟨by rw [hz]; exact h.K.1, fun i hi hg hrow => (hr i (by omega)).trans (h.K.2 i hi hg hrow)⟩, (hr _ (fun e => h1.2.1 e.symm)).trans h.P, (hr _ (fun e => h1.2.2.1 e.symm)).trans h.C, (hr _ (fun e => h1.2.2.2 e.symm)).trans h.Hd, h.Z, ?_, ?_⟩
 ·exact Kd.R_mono (Kd.R_step (Kd.R_tight rfl h.R1) (fun k hk _ => hr k (n1 k hk.symm))) (fun _ _ => trivial)
 ·exact Kd.R_mono (Kd.R_step (Kd.R_tight rfl h.R2) (fun k hk _ => hr k (n2 k hk.symm))) (fun _ _ => trivial)
theorem CI.grown {W1 : World} {row : Option Nat} (h : CI w0 w g N bh s fr ls lf x v1 v2 W) (hb : Below N W W1) (hg : W.grownBy W1 row) (hne : ∀ k, row = some k → ∃ cs t, W.heap[k]? = some (.cells cs t (0, 0)) ∧ (t = 41 ∨ t = 43)) (u1 u2 : Value) (i : Nat) (c : Value) (hc : (#[.int .i64 fr, v1, v2] : Array Value).setIfInBounds i c = #[.int .i64 fr, u1, u2]) :
  SP w0 (W1.setCell ⟨N + 1, i, none⟩ c) g s x ∧ KeepBut w (W1.setCell ⟨N + 1, i, none⟩ c) g none ∧ (W1.setCell ⟨N + 1, i, none⟩ c).heap[N]? = some (.cells #[.pointer (some ⟨g, 0, none⟩)] 47 (0, 0)) ∧ (W1.setCell ⟨N + 1, i, none⟩ c).heap[N + 1]? = some (.cells #[.int .i64 fr, u1, u2] 26 (0, 0)) ∧ (W1.setCell ⟨N + 1, i, none⟩ c).heap[bh]? = some (.cells #[.string ⟨#[101, 110, 100]⟩, .string ⟨#[102, 101, 97, 115, 116]⟩, .string ⟨#[115, 101, 97, 115, 111, 110]⟩] 9 (0, 0)) := by
 obtain ⟨z1, z2, z3⟩ := h.Z
 have hn := h.ne
 have far : ∀ {q : Nat} {cs : Array Value} {t : TypeId}, W.heap[q]? = some (.cells cs t (0, 0)) → t ≠ 41 → t ≠ 43 → W1.heap[q]? = some (.cells cs t (0, 0)) := by
  intro q cs t hq t1 t2
  refine blk_grown hq hg (fun e => ?_)
  obtain ⟨cs', t', h1, h2⟩ := hne q e.symm
  rw [hq] at h1
  injection h1 with h1
  injection h1 with _ h3
  rcases h2 with h2 | h2
  ·exact t1 (h3.trans h2)
  ·exact t2 (h3.trans h2)
 have fc : ∀ k, k ≠ N + 1 → (W1.setCell ⟨N + 1, i, none⟩ c).heap[k]? = W1.heap[k]? := fun k hk => Below.heap_setCell _ ⟨N + 1, i, none⟩ _ k hk
 have hsz : (W1.setCell ⟨N + 1, i, none⟩ c).heap.size = W1.heap.size := by simp [World.setCell]
 have hW1 : Below w0.heap.size w0 W1 := below_weaken h.S.B z2 hb
 refine ⟨⟨⟨(fc g (fun e => hn.2.1 e.symm)).trans (far h.S.I.1 (by decide) (by decide)), h.S.I.2⟩, below_set hW1 (by omega), h.S.L, h.S.Z⟩, ⟨by rw [hsz]; exact Nat.le_trans h.K.1 hb.size, fun k hk hkg hr => ?_⟩, (fc N (by omega)).trans (far h.P (by decide) (by decide)), blk_put (far h.C (by decide) (by decide)) i c hc, (fc bh (by omega)).trans (far h.Hd (by decide) (by decide))⟩
 rw [fc k (by omega), hb.block k (by omega)]
 exact h.K.2 k hk hkg hr
theorem R_typed {α : Type} {d : Kd α} {e base : Nat} {ok : Nat → Prop} {w : World} {v : Value} {xs : List α} (hE : d.E = []) (h : d.R e w base ok v xs) : ∀ k, v.ownBlock = some k → ∃ cs, w.heap[k]? = some (.cells cs e (0, 0)) := by
 intro k hk
 obtain ⟨_, _, _, q, hq, cs, hc⟩ := (Kd.R_bound h).1 k hk
 rw [hE] at hq
 obtain rfl := List.mem_singleton.1 hq
 exact ⟨cs, hc⟩
theorem CI.cat2 {W1 : World} (h : CI w0 w g N bh s fr ls lf x v1 v2 W) (hg : W.grownBy W1 v2.ownBlock) : W1.heap[N + 1]? = some (.cells #[.int .i64 fr, v1, v2] 26 (0, 0)) := blk_grown h.C hg (fun e => by obtain ⟨cs, hc⟩ := R_typed rfl h.R2 _ e.symm; rw [h.C] at hc; injection hc with hc; injection hc with _ hc; exact absurd hc (by decide))
theorem CI.cat1 {W1 : World} (h : CI w0 w g N bh s fr ls lf x v1 v2 W) (hg : W.grownBy W1 v1.ownBlock) : W1.heap[N + 1]? = some (.cells #[.int .i64 fr, v1, v2] 26 (0, 0)) := blk_grown h.C hg (fun e => by obtain ⟨cs, hc⟩ := R_typed rfl h.R1 _ e.symm; rw [h.C] at hc; injection hc with hc; injection hc with _ hc; exact absurd hc (by decide))
theorem CI.app2 {W1 : World} {f : S43} {v' : Value} (h : CI w0 w g N bh s fr ls lf x v1 v2 W) (hr : Kd.R k43 43 W1 N (fun _ => True) v' (lf ++ [f])) (hb : Below N W W1) (hg : W.grownBy W1 v2.ownBlock) : CI w0 w g N bh s fr ls (lf ++ [f]) x v1 v' (W1.setCell ⟨N + 1, 2, none⟩ v') := by
 obtain ⟨g1, g2, g3, g4, g5⟩ := h.grown hb hg (fun k hk => by obtain ⟨cs, hc⟩ := R_typed rfl h.R2 k hk; exact ⟨cs, _, hc, .inr rfl⟩) v1 v' 2 v' rfl
 have hC1 : ∃ cs, W1.heap[N + 1]? = some (.cells cs 26 (0, 0)) := ⟨_, blk_grown h.C hg (fun e => by obtain ⟨cs, hc⟩ := R_typed rfl h.R2 _ e.symm; rw [h.C] at hc; injection hc with hc; injection hc with _ hc; exact absurd hc (by decide))⟩
 obtain ⟨cs, hC1⟩ := hC1
 have r1 : Kd.R k41 41 W1 N (fun _ => True) v1 ls := Kd.R_mono (Kd.R_grown (Kd.R_tight rfl h.R1) hg (fun k hk e => by
  obtain ⟨c1, h1⟩ := R_typed rfl h.R1 k hk.symm
  obtain ⟨c2, h2⟩ := R_typed rfl h.R2 k e.symm
  rw [h1] at h2
  injection h2 with h2
  injection h2 with _ h2
  exact absurd h2 (by decide))) (fun _ _ => trivial)
 exact ⟨g1, g2, g3, g4, g5, h.Z, Kd.R_mono (Kd.R_step (Kd.R_types r1 hC1 (by decide)) (fun k hk _ => Below.heap_setCell _ ⟨N + 1, 2, none⟩ _ k hk.2)) (fun _ _ => trivial), Kd.R_mono (Kd.R_step (Kd.R_types hr hC1 (by decide)) (fun k hk _ => Below.heap_setCell _ ⟨N + 1, 2, none⟩ _ k hk.2)) (fun _ _ => trivial)⟩
theorem CI.app1 {W1 : World} {f : S41} {v' : Value} (h : CI w0 w g N bh s fr ls lf x v1 v2 W) (hr : Kd.R k41 41 W1 N (fun _ => True) v' (ls ++ [f])) (hb : Below N W W1) (hg : W.grownBy W1 v1.ownBlock) : CI w0 w g N bh s fr (ls ++ [f]) lf x v' v2 (W1.setCell ⟨N + 1, 1, none⟩ v') := by
 obtain ⟨g1, g2, g3, g4, g5⟩ := h.grown hb hg (fun k hk => by obtain ⟨cs, hc⟩ := R_typed rfl h.R1 k hk; exact ⟨cs, _, hc, .inl rfl⟩) v' v2 1 v' rfl
 have hC1 : ∃ cs, W1.heap[N + 1]? = some (.cells cs 26 (0, 0)) := ⟨_, blk_grown h.C hg (fun e => by obtain ⟨cs, hc⟩ := R_typed rfl h.R1 _ e.symm; rw [h.C] at hc; injection hc with hc; injection hc with _ hc; exact absurd hc (by decide))⟩
 obtain ⟨cs, hC1⟩ := hC1
 have r2 : Kd.R k43 43 W1 N (fun _ => True) v2 lf := Kd.R_mono (Kd.R_grown (Kd.R_tight rfl h.R2) hg (fun k hk e => by
  obtain ⟨c1, h1⟩ := R_typed rfl h.R2 k hk.symm
  obtain ⟨c2, h2⟩ := R_typed rfl h.R1 k e.symm
  rw [h1] at h2
  injection h2 with h2
  injection h2 with _ h2
  exact absurd h2 (by decide))) (fun _ _ => trivial)
 exact ⟨g1, g2, g3, g4, g5, h.Z, Kd.R_mono (Kd.R_step (Kd.R_types hr hC1 (by decide)) (fun k hk _ => Below.heap_setCell _ ⟨N + 1, 1, none⟩ _ k hk.2)) (fun _ _ => trivial), Kd.R_mono (Kd.R_step (Kd.R_types r2 hC1 (by decide)) (fun k hk _ => Below.heap_setCell _ ⟨N + 1, 1, none⟩ _ k hk.2)) (fun _ _ => trivial)⟩
end
def set9 (W : World) (b : Nat) (a0 a1 a2 a3 a4 a5 a6 a7 a8 : Value) : World := ((((((((W.setCell ⟨b, 0, none⟩ a0).setCell ⟨b, 1, none⟩ a1).setCell ⟨b, 2, none⟩ a2).setCell ⟨b, 3, none⟩ a3).setCell ⟨b, 4, none⟩ a4).setCell ⟨b, 5, none⟩ a5).setCell ⟨b, 6, none⟩ a6).setCell ⟨b, 7, none⟩ a7).setCell ⟨b, 8, none⟩ a8
theorem nine {W : World} {b : Nat} {t : TypeId} {a0 a1 a2 a3 a4 a5 a6 a7 a8 : Value} (h : W.heap[b]? = some (.cells #[a0, a1, a2, a3, a4, a5, a6, a7, a8] t (0, 0))) :
  (W.cell? ⟨b, 0, none⟩ = some a0 ∧ W.cell? ⟨b, 1, none⟩ = some a1 ∧ W.cell? ⟨b, 2, none⟩ = some a2 ∧ W.cell? ⟨b, 3, none⟩ = some a3 ∧ W.cell? ⟨b, 4, none⟩ = some a4 ∧ W.cell? ⟨b, 5, none⟩ = some a5 ∧ W.cell? ⟨b, 6, none⟩ = some a6 ∧ W.cell? ⟨b, 7, none⟩ = some a7 ∧ W.cell? ⟨b, 8, none⟩ = some a8) ∧
  (W.frozen? ⟨b, 0, none⟩ = false ∧ W.frozen? ⟨b, 1, none⟩ = false ∧ W.frozen? ⟨b, 2, none⟩ = false ∧ W.frozen? ⟨b, 3, none⟩ = false ∧ W.frozen? ⟨b, 4, none⟩ = false ∧ W.frozen? ⟨b, 5, none⟩ = false ∧ W.frozen? ⟨b, 6, none⟩ = false ∧ W.frozen? ⟨b, 7, none⟩ = false ∧ W.frozen? ⟨b, 8, none⟩ = false) :=
 ⟨⟨blk_cell h 0, blk_cell h 1, blk_cell h 2, blk_cell h 3, blk_cell h 4, blk_cell h 5, blk_cell h 6, blk_cell h 7, blk_cell h 8⟩, ⟨blk_frozen h 0, blk_frozen h 1, blk_frozen h 2, blk_frozen h 3, blk_frozen h 4, blk_frozen h 5, blk_frozen h 6, blk_frozen h 7, blk_frozen h 8⟩⟩
theorem set9_far (W : World) (b : Nat) (a0 a1 a2 a3 a4 a5 a6 a7 a8 : Value) (k : Nat) (hk : k ≠ b) : (set9 W b a0 a1 a2 a3 a4 a5 a6 a7 a8).heap[k]? = W.heap[k]? := by
 unfold set9
 rw [Below.heap_setCell _ _ _ _ hk, Below.heap_setCell _ _ _ _ hk, Below.heap_setCell _ _ _ _ hk, Below.heap_setCell _ _ _ _ hk, Below.heap_setCell _ _ _ _ hk, Below.heap_setCell _ _ _ _ hk, Below.heap_setCell _ _ _ _ hk, Below.heap_setCell _ _ _ _ hk, Below.heap_setCell _ _ _ _ hk]
theorem set9_blk {W : World} {b : Nat} {t : TypeId} {c0 c1 c2 c3 c4 c5 c6 c7 c8 : Value} (h : W.heap[b]? = some (.cells #[c0, c1, c2, c3, c4, c5, c6, c7, c8] t (0, 0))) (a0 a1 a2 a3 a4 a5 a6 a7 a8 : Value) : (set9 W b a0 a1 a2 a3 a4 a5 a6 a7 a8).heap[b]? = some (.cells #[a0, a1, a2, a3, a4, a5, a6, a7, a8] t (0, 0)) := by
 have h := blk_set (blk_set (blk_set (blk_set (blk_set (blk_set (blk_set (blk_set (blk_set h 0 a0) 1 a1) 2 a2) 3 a3) 4 a4) 5 a5) 6 a6) 7 a7) 8 a8
 simpa [set9] using h
def Nine (w0 w W : World) (g : Nat) (s : ByteArray) (x : Sc) (b : Nat) (t : TypeId) (a0 a1 a2 a3 a4 a5 a6 a7 a8 : Value) : Prop :=
 SP w0 W g s x ∧ KeepBut w W g none ∧ w.heap.size ≤ b ∧ W.heap[b]? = some (.cells #[a0, a1, a2, a3, a4, a5, a6, a7, a8] t (0, 0))
def nineB (t : TypeId) : Option Nat → List (Nat × Obj)
 | none => []
 | some b => [(b, .cells #[.string ⟨#[]⟩, .int .i64 0, .int .i64 0, .int .i64 0, .int .i64 0, .int .i64 0, .int .i64 0, .int .i64 0, .int .i64 0] t)]
def nineF (W : World) : Option Nat → Prop
 | none => True
 | some b => (W.cell? ⟨b, 0, none⟩ = some (.string ⟨#[]⟩) ∧ W.cell? ⟨b, 1, none⟩ = some (.int .i64 0) ∧ W.cell? ⟨b, 2, none⟩ = some (.int .i64 0) ∧ W.cell? ⟨b, 3, none⟩ = some (.int .i64 0) ∧ W.cell? ⟨b, 4, none⟩ = some (.int .i64 0) ∧ W.cell? ⟨b, 5, none⟩ = some (.int .i64 0) ∧ W.cell? ⟨b, 6, none⟩ = some (.int .i64 0) ∧ W.cell? ⟨b, 7, none⟩ = some (.int .i64 0) ∧ W.cell? ⟨b, 8, none⟩ = some (.int .i64 0)) ∧
  (W.frozen? ⟨b, 0, none⟩ = false ∧ W.frozen? ⟨b, 1, none⟩ = false ∧ W.frozen? ⟨b, 2, none⟩ = false ∧ W.frozen? ⟨b, 3, none⟩ = false ∧ W.frozen? ⟨b, 4, none⟩ = false ∧ W.frozen? ⟨b, 5, none⟩ = false ∧ W.frozen? ⟨b, 6, none⟩ = false ∧ W.frozen? ⟨b, 7, none⟩ = false ∧ W.frozen? ⟨b, 8, none⟩ = false)
section
variable {w0 w W : World} {g : Nat} {s : ByteArray} {x : Sc} {t : TypeId}
theorem PF.start9 (t : TypeId) (h : SP w0 w g s x) : PF w0 w w g s x (nineB t none) := PF.start h
theorem PF.mk9 (h : PF w0 w W g s x (nineB t none)) : PF w0 w (W.alloc (.cells #[.string ⟨#[]⟩, .int .i64 0, .int .i64 0, .int .i64 0, .int .i64 0, .int .i64 0, .int .i64 0, .int .i64 0, .int .i64 0] t)) g s x (nineB t (some W.heap.size)) := h.make rfl _
theorem PF.facts9 {o : Option Nat} (h : PF w0 w W g s x (nineB t o)) : nineF W o := by
 cases o with
 | none => trivial
 | some b => exact Q.nine (h.has (List.Mem.head _))
theorem PF.newNine {o : Option Nat} (h : PF w0 w W g s x (nineB t o)) (a0 a1 a2 a3 a4 a5 a6 a7 a8 : Value) : Nine w0 w (W.alloc (.cells #[a0, a1, a2, a3, a4, a5, a6, a7, a8] t)) g s x W.heap.size t a0 a1 a2 a3 a4 a5 a6 a7 a8 :=
 ⟨h.S.alloc _, keep_alloc h.K _, h.K.1, blk_new _ _⟩
theorem PF.nine {b : Nat} (h : PF w0 w W g s x (nineB t (some b))) (h0 : w0.heap.size ≤ w.heap.size) (a0 a1 a2 a3 a4 a5 a6 a7 a8 : Value) :
  Nine w0 w (((((((((W.setCell ⟨b, 0, none⟩ a0).setCell ⟨b, 1, none⟩ a1).setCell ⟨b, 2, none⟩ a2).setCell ⟨b, 3, none⟩ a3).setCell ⟨b, 4, none⟩ a4).setCell ⟨b, 5, none⟩ a5).setCell ⟨b, 6, none⟩ a6).setCell ⟨b, 7, none⟩ a7).setCell ⟨b, 8, none⟩ a8) g s x b t a0 a1 a2 a3 a4 a5 a6 a7 a8 := by
 have hm : (b, Obj.cells #[.string ⟨#[]⟩, .int .i64 0, .int .i64 0, .int .i64 0, .int .i64 0, .int .i64 0, .int .i64 0, .int .i64 0, .int .i64 0] t) ∈ nineB t (some b) := List.Mem.head _
 obtain ⟨n1, n2⟩ := h.N _ hm
 have hb := below_set (j := 8) (v := a8) (below_set (j := 7) (v := a7) (below_set (j := 6) (v := a6) (below_set (j := 5) (v := a5) (below_set (j := 4) (v := a4) (below_set (j := 3) (v := a3) (below_set (j := 2) (v := a2) (below_set (j := 1) (v := a1) (below_set (j := 0) (v := a0) h.S.B (Nat.le_trans h0 n2)) (Nat.le_trans h0 n2)) (Nat.le_trans h0 n2)) (Nat.le_trans h0 n2)) (Nat.le_trans h0 n2)) (Nat.le_trans h0 n2)) (Nat.le_trans h0 n2)) (Nat.le_trans h0 n2)) (Nat.le_trans h0 n2)
 have h2 : PF w0 w (set9 W b a0 a1 a2 a3 a4 a5 a6 a7 a8) g s x [(b, .cells #[a0, a1, a2, a3, a4, a5, a6, a7, a8] t)] :=
  h.put ⟨n1, n2⟩ h0 (by simp [set9, World.setCell]) (set9_blk (h.has hm) _ _ _ _ _ _ _ _ _) (fun k hk => set9_far _ _ _ _ _ _ _ _ _ _ _ k hk) hb (fun q hq => .inl (List.mem_singleton.1 hq))
 exact ⟨h2.S, h2.K, n2, h2.has (List.Mem.head _)⟩
end
def set6d (W : World) (b : Nat) (a3 a4 a5 a6 a7 a8 : Value) : World := (((((W.setCell ⟨b, 3, none⟩ a3).setCell ⟨b, 4, none⟩ a4).setCell ⟨b, 5, none⟩ a5).setCell ⟨b, 6, none⟩ a6).setCell ⟨b, 7, none⟩ a7).setCell ⟨b, 8, none⟩ a8
theorem set6d_far (W : World) (b : Nat) (a3 a4 a5 a6 a7 a8 : Value) (k : Nat) (hk : k ≠ b) : (set6d W b a3 a4 a5 a6 a7 a8).heap[k]? = W.heap[k]? := by
 unfold set6d
 rw [Below.heap_setCell _ _ _ _ hk, Below.heap_setCell _ _ _ _ hk, Below.heap_setCell _ _ _ _ hk, Below.heap_setCell _ _ _ _ hk, Below.heap_setCell _ _ _ _ hk, Below.heap_setCell _ _ _ _ hk]
theorem set6d_blk {W : World} {b : Nat} {t : TypeId} {c0 c1 c2 c3 c4 c5 c6 c7 c8 : Value} (h : W.heap[b]? = some (.cells #[c0, c1, c2, c3, c4, c5, c6, c7, c8] t (0, 0))) (a3 a4 a5 a6 a7 a8 : Value) : (set6d W b a3 a4 a5 a6 a7 a8).heap[b]? = some (.cells #[c0, c1, c2, a3, a4, a5, a6, a7, a8] t (0, 0)) := by
 have h := blk_set (blk_set (blk_set (blk_set (blk_set (blk_set h 3 a3) 4 a4) 5 a5) 6 a6) 7 a7) 8 a8
 simpa [set6d] using h
theorem CI.six {w0 w W : World} {g N bh : Nat} {s : ByteArray} {fr : Int} {ls : List S41} {lf : List S43} {x : Sc} {v1 v2 : Value} (h : CI w0 w g N bh s fr ls lf x v1 v2 W) {b : Nat} {t : TypeId} {c0 c1 c2 c3 c4 c5 c6 c7 c8 : Value} (hb : W.heap[b]? = some (.cells #[c0, c1, c2, c3, c4, c5, c6, c7, c8] t (0, 0))) (ht : t = 41 ∨ t = 43) (hwb : w.heap.size ≤ b) (n1 : ∀ k, v1.ownBlock = some k → k ≠ b) (n2 : ∀ k, v2.ownBlock = some k → k ≠ b) (a3 a4 a5 a6 a7 a8 : Value) :
  CI w0 w g N bh s fr ls lf x v1 v2 ((((((W.setCell ⟨b, 3, none⟩ a3).setCell ⟨b, 4, none⟩ a4).setCell ⟨b, 5, none⟩ a5).setCell ⟨b, 6, none⟩ a6).setCell ⟨b, 7, none⟩ a7).setCell ⟨b, 8, none⟩ a8) ∧ ((((((W.setCell ⟨b, 3, none⟩ a3).setCell ⟨b, 4, none⟩ a4).setCell ⟨b, 5, none⟩ a5).setCell ⟨b, 6, none⟩ a6).setCell ⟨b, 7, none⟩ a7).setCell ⟨b, 8, none⟩ a8).heap[b]? = some (.cells #[c0, c1, c2, a3, a4, a5, a6, a7, a8] t (0, 0)) := by
 have z := h.Z
 have h0 : w0.heap.size ≤ b := by omega
 have e : ∀ {q : Nat} {cs : Array Value} {u : TypeId}, W.heap[q]? = some (.cells cs u (0, 0)) → u ≠ 41 → u ≠ 43 → b ≠ q := fun hq t1 t2 => blk_ne hb hq (by rcases ht with e | e <;> subst e; exact fun e => t1 e.symm; exact fun e => t2 e.symm)
 exact ⟨h.other (W' := set6d W b a3 a4 a5 a6 a7 a8) (by simp [set6d, World.setCell]) (fun k hk => set6d_far _ _ _ _ _ _ _ _ k hk) (below_set (below_set (below_set (below_set (below_set (below_set h.S.B h0) h0) h0) h0) h0) h0) ⟨e h.S.I.1 (by decide) (by decide), e h.P (by decide) (by decide), e h.C (by decide) (by decide), e h.Hd (by decide) (by decide)⟩ hwb n1 n2, set6d_blk hb _ _ _ _ _ _⟩
theorem left_step {s : ByteArray} {x y : Sc} {k : Nat} (h : x.2 = false) (hl : left_ s x ≤ k + 1) (h1 : x.1 < y.1) (h2 : y.1 ≤ s.size) : left_ s y ≤ k := by
 unfold left_ at hl ⊢
 rw [h, if_neg (by decide)] at hl
 split <;> omega
theorem left_fail {s : ByteArray} {x y : Sc} {k : Nat} (h : x.2 = false) (hl : left_ s x ≤ k + 1) (h1 : x.1 ≤ y.1) (h2 : y.2 = true) : left_ s y ≤ k := by
 unfold left_ at hl ⊢
 rw [h, if_neg (by decide)] at hl
 rw [if_pos h2]
 omega
theorem catL_stop (s : ByteArray) (k n : Nat) (ls : List S41) (lf : List S43) {x : Sc} (h : x.2 = true) : catL s k n ls lf x = (ls, lf, x) := by
 cases k with
 | zero => rfl
 | succ k => rw [catL, if_pos h]
theorem p_catalogue (w0 w : World) (g : Nat) (s : ByteArray) (x : Sc) (h : SP w0 w g s x) (hT : Tabs w0) (hs9 : s.size ≤ 1000000000) :
  Calls Tryd.prog 17 #[.agg #[.pointer (some ⟨g, 0, none⟩)]] w fun e w' => ∃ v1 v2, e = .returned (.agg #[.int .i64 (pcCat s x).1, v1, v2]) ∧
   Kd.R k41 41 w' w.heap.size (fun _ => True) v1 (pcCat s x).2.1 ∧ Kd.R k43 43 w' w.heap.size (fun _ => True) v2 (pcCat s x).2.2.1 ∧ SP w0 w' g s (pcCat s x).2.2.2 ∧ KeepBut w w' g none := by
 obtain ⟨fr, hfr⟩ : ∃ fr, fr = (pcN s (scW s wHead x).2).1 := ⟨_, rfl⟩
 obtain ⟨x0, hx0⟩ : ∃ y, y = (scW s wNl (pcN s (scW s wHead x).2).2).2 := ⟨_, rfl⟩
 obtain ⟨F, hF⟩ : ∃ F, F = catL s (s.size + 2) 3 [] [] x0 := ⟨_, rfl⟩
 have hcat : pcCat s x = (fr, F) := by rw [pcCat, ← hfr, ← hx0, ← hF]
 rw [hcat]
 have HFR := Aside0.mk hfr
 have HX0 := Aside0.mk hx0
 have HE := Aside0.mk hF.symm
 clear hcat hfr hx0 hF
 obtain ⟨N, hN⟩ : ∃ N, N = w.heap.size := ⟨_, rfl⟩
 have H0 := Aside0.mk h.B.size
 have hlt := h.lt
 have h1 := ((PF.start h).make hN.symm (.cells #[.pointer (some ⟨g, 0, none⟩)] 47)).make (b := N + 1) (by rw [World.size_alloc, hN]) (.cells #[.int .i64 0, .slice none 0 0, .slice none 0 0] 26)
 have HF := Aside0.mk h1
 rw [hN] at HF
 have HN := Aside0.mk hN
 have HT := Aside0.mk hT
 have hu26 := Tryd.underlying26
 clear h hT h1 hN
 go_enter Tryd.func17, Tryd.ntmps17
 go_wp2_with fail
 refine Calls.mono (HF.out.words (b := w.heap.size + 1 + 1) (l1 := wHead) (n := 1) (by simp) rfl (by decide) rfl) ?_
 rintro e w1 ⟨rfl, h1⟩
 have HF1 := Aside0.mk h1
 clear HF h1
 have hbp := HF1.out.cell (i := 0) (List.Mem.head _) rfl
 go_wp2_with fail
 refine Calls.mono HF1.out.num ?_
 rintro e w2 ⟨rfl, h1⟩
 have HF2 := Aside0.mk h1
 clear HF1 h1 hbp
 have hbp := HF2.out.cell (i := 0) (List.Mem.head _) rfl
 have hb0 := HF2.out.cell (i := 0) (List.Mem.tail _ (List.Mem.head _)) rfl
 have hf0 := blk_frozen (HF2.out.has (List.Mem.tail _ (List.Mem.head _))) 0
 go_upto_region 3 with fail
 have h3 := HF2.out.set1 (i := 0) (v := .int .i64 (pcN s (scW s wHead x).2).1) (bs' := [(w.heap.size, .cells #[.pointer (some ⟨g, 0, none⟩)] 47), (w.heap.size + 1, .cells #[.int .i64 (pcN s (scW s wHead x).2).1, .slice none 0 0, .slice none 0 0] 26)]) H0.out (List.Mem.tail _ (List.Mem.head _)) (fun q hq => by
  rcases List.mem_cons.1 hq with rfl | hq
  ·exact .inr ⟨by simp, List.Mem.head _⟩
  ·obtain rfl := List.mem_singleton.1 hq; exact .inl rfl)
 generalize hW3 : World.setCell _ _ _ = w3 at h3 ⊢
 have HF3 := Aside0.mk h3
 clear HF2 h3 hW3 hbp hb0 hf0
 have hbp := HF3.out.cell (i := 0) (List.Mem.head _) rfl
 go_wp2_with fail
 refine Calls.mono (HF3.out.words (b := w3.heap.size) (l1 := wNl) (n := 1) rfl rfl (by decide) rfl) ?_
 rintro e w4 ⟨rfl, h1⟩
 have HF4 := Aside0.mk h1
 clear HF3 h1 hbp
 go_wp2_with fail
 rw [← HFR.out, ← HX0.out] at HF4
 have h5 : CI w0 w g w.heap.size w4.heap.size s fr [] [] x0 (.slice none 0 0) (.slice none 0 0) (w4.alloc (.cells #[.string ⟨#[101, 110, 100]⟩, .string ⟨#[102, 101, 97, 115, 116]⟩, .string ⟨#[115, 101, 97, 115, 111, 110]⟩] 9)) := by
  have h6 := HF4.out.alloc (.cells #[.string ⟨#[101, 110, 100]⟩, .string ⟨#[102, 101, 97, 115, 116]⟩, .string ⟨#[115, 101, 97, 115, 111, 110]⟩] 9)
  have hz := blk_lt (HF4.out.has (List.Mem.tail _ (List.Mem.head _)))
  exact ⟨h6.S, h6.K, h6.has (List.Mem.head _), h6.has (List.Mem.tail _ (List.Mem.head _)), blk_new _ _, ⟨rfl, H0.out, hz⟩, Kd.R_nil _ _ _ _ _, Kd.R_nil _ _ _ _ _⟩
 generalize w4.heap.size = bh at h5 ⊢
 generalize World.alloc w4 _ = w5 at h5 ⊢
 have HC := Aside0.mk h5
 have HL : left_ s x0 ≤ s.size + 2 := by unfold left_; split <;> omega
 clear HF4 h5 HFR HX0
 rw [← HN.out] at HC ⊢
 go_loopg [3] (s.size + 2) (fun kq v3 w' => ∃ n c ls lf x' v1 v2, v3 = .slice (some ⟨bh, 0, none⟩) n c ∧ Aside0 (2 ≤ n ∧ n ≤ 3 ∧ n ≤ c) ∧ Aside0 (CI w0 w g N bh s fr ls lf x' v1 v2 w') ∧ Aside0 (catL s kq n ls lf x' = F) ∧ Aside0 (left_ s x' ≤ kq ∧ ls.length + lf.length ≤ x'.1))
 case atStart => exact ⟨3, 3, [], [], x0, .slice none 0 0, .slice none 0 0, rfl, ⟨by omega⟩, HC, HE, ⟨HL, Nat.zero_le _⟩⟩
 case round =>
 clear HC HE HL
 obtain ⟨n, c, ls, lf, x', v1, v2, rfl, HNC, HC, HE, HL⟩ := hrel
 obtain ⟨A1, c1, rfl⟩ := Kd.R_slice HC.out.R1
 obtain ⟨A2, c2, rfl⟩ := Kd.R_slice HC.out.R2
 have hbp := HC.out.cp
 by_cases hx : x'.2 = true
 ·have HErr := Aside0.mk HC.out.S.err
  rw [if_pos hx] at HErr
  go_wp2_with fail
  refine Calls.mono HErr.out ?_
  rintro e w6 ⟨rfl, rfl⟩
  have hc0 := HC.out.c0
  have hc1 := HC.out.c1
  have hc2 := HC.out.c2
  have f0 := HC.out.fz 0
  have f1 := HC.out.fz 1
  have f2 := HC.out.fz 2
  have hFF : F = (ls, lf, x') := HE.out.symm.trans (catL_stop s gk n ls lf hx)
  subst hFF
  go_wp2_with fail
  refine bodyPost_ret (results_cell_row rfl _ _ (N + 1) 26 #[.int .i64 fr, .slice A1 ls.length c1, .slice A2 lf.length c2] (0, 0) _ rfl (set3c_blk HC.out.C _ _ _) hu26 rfl (by kernel_rfl)) rfl ?_
  exact ⟨_, _, rfl, HC.out.fin _ _ _⟩
 ·have hx := Bool.eq_false_iff.mpr hx
  obtain ⟨k1, rfl⟩ : ∃ m, gk = m + 1 := ⟨gk - 1, by have h1 := HL.out.1; unfold left_ at h1; rw [if_neg (by rw [hx]; decide)] at h1; omega⟩
  have HErr := Aside0.mk HC.out.S.err
  rw [if_neg (by rw [hx]; decide)] at HErr
  have hE := HE.out
  rw [catL, if_neg (by rw [hx]; decide)] at hE
  obtain ⟨r, hr⟩ : ∃ r, r = scW s (wHeads.take n) x' := ⟨_, rfl⟩
  have HWd := Aside0.mk (HC.out.word (c := c) HNC.out.2.1)
  have hca := scW_cases s (wHeads.take n) x'
  have hln : (wHeads.take n).length = n := by have := HNC.out.2.1; simp [wHeads]; omega
  rw [hln] at hca
  have hwg := scW_ge s (wHeads.take n) x'
  rw [← hr] at HWd hE hca hwg
  clear hr hln HE
  obtain ⟨ri, rx⟩ := r
  simp only at HWd hE hca hwg
  have HWG := Aside0.mk hwg
  have HCa := Aside0.mk hca
  have HE := Aside0.mk hE
  clear hca hE hwg
  by_cases r0 : ri = 0
  ·subst r0
   rw [if_pos rfl] at HE
   go_wp2_with fail
   refine Calls.mono HErr.out ?_
   rintro e w6 ⟨rfl, rfl⟩
   go_wp2_with fail
   refine Calls.mono HWd.out ?_
   rintro e w7 ⟨rfl, h7, _⟩
   have HC7 := Aside0.mk h7
   clear HC hbp HErr HWd h7
   have hbp := HC7.out.cp
   go_wp2_with fail
   refine Calls.mono (HC7.out.lits (l1 := wNl) (n := 1) rfl rfl (by decide) rfl) ?_
   rintro e w8 ⟨rfl, h8, _⟩
   have HC8 := Aside0.mk h8
   clear HC7 h8 hbp
   have hbp := HC8.out.cp
   go_wp2_with fail
   refine Calls.mono HC8.out.S.end_ ?_
   rintro e w9 ⟨rfl, hS9, hK9⟩
   have HC9 := Aside0.mk (HC8.out.turn hS9 hK9)
   clear HC8 hbp hS9 hK9
   have hc0 := HC9.out.c0
   have hc1 := HC9.out.c1
   have hc2 := HC9.out.c2
   have f0 := HC9.out.fz 0
   have f1 := HC9.out.fz 1
   have f2 := HC9.out.fz 2
   obtain rfl : F = _ := HE.out.symm
   go_wp2_with fail
   refine bodyPost_ret (results_cell_row rfl _ _ (N + 1) 26 #[.int .i64 fr, .slice A1 ls.length c1, .slice A2 lf.length c2] (0, 0) _ rfl (set3c_blk HC9.out.C _ _ _) hu26 rfl (by kernel_rfl)) rfl ?_
   exact ⟨_, _, rfl, HC9.out.fin _ _ _⟩
  rw [if_neg r0] at HE
  by_cases r1 : ri = 1
  ·subst r1
   rw [if_pos rfl] at HE
   go_wp2_with fail
   refine Calls.mono HErr.out ?_
   rintro e w6 ⟨rfl, rfl⟩
   go_wp2_with fail
   refine Calls.mono HWd.out ?_
   rintro e w7 ⟨rfl, h7, _⟩
   have HC7 := Aside0.mk h7
   clear HC hbp HErr HWd h7
   have hbp := HC7.out.cp
   have hne := HC7.out.ne.1
   have HF := Aside0.mk (PF.start9 43 HC7.out.S)
   have H07 := Aside0.mk HC7.out.h0
   go_wp2_with fail
   go_cut [4] (fun v4 wc => ∃ b, v4 = .pointer (some ⟨b, 0, none⟩) ∧ Aside0 (Nine w0 w7 wc g s (pcC s tPols (pcN s (pcI s rx).2).2).2 b 43 (.string (pcI s rx).1) (.int .i64 (pcN s (pcI s rx).2).1) (.int .i64 (IntKind.i64.wrap ((pcC s tPols (pcN s (pcI s rx).2).2).1 + 1))) (.int .i64 0) (.int .i64 0) (.int .i64 0) (.int .i64 0) (.int .i64 0) (.int .i64 0)))
   case first =>
    go_region_held3 (fun w' => w'.cell? ⟨N, 0, none⟩ = some (.pointer (some ⟨g, 0, none⟩))) (first | (with_reducible exact keep_cell HF.out.K hbp hne) | (refine keep_cell (g := g) ?_ hbp hne; repeat' (first | (with_reducible exact HF.out.K) | (with_reducible refine keep_far ?_ ?_ _) | (with_reducible refine keep_alloc ?_ _) | (with_reducible refine keep_drew ?_) | exact HF.out.K.1 | exact (HF.out.N _ (List.Mem.head _)).2))) (first | (go_at_call 39; (first | (with_reducible refine Calls.mono (HF.out.idt) ?_) | (with_reducible refine Calls.mono (HF.out.drew.idt) ?_) | (with_reducible refine Calls.mono (HF.out.mk9.idt) ?_) | (with_reducible refine Calls.mono (HF.out.mk9.drew.idt) ?_)); rintro e w9 ⟨rfl, h2⟩; have n0_ := Aside0.mk h2; clear HF h2; have HF := n0_; clear n0_; have hq := HF.out.facts9; simp only [nineF] at hq) | (go_at_call 37; (first | (with_reducible refine Calls.mono (HF.out.num) ?_) | (with_reducible refine Calls.mono (HF.out.drew.num) ?_) | (with_reducible refine Calls.mono (HF.out.mk9.num) ?_) | (with_reducible refine Calls.mono (HF.out.mk9.drew.num) ?_)); rintro e w9 ⟨rfl, h2⟩; have n0_ := Aside0.mk h2; clear HF h2; have HF := n0_; clear n0_; have hq := HF.out.facts9; simp only [nineF] at hq) | (go_at_call 40; (first | (with_reducible refine Calls.mono (HF.out.pols HT.out) ?_) | (with_reducible refine Calls.mono (HF.out.drew.pols HT.out) ?_) | (with_reducible refine Calls.mono (HF.out.mk9.pols HT.out) ?_) | (with_reducible refine Calls.mono (HF.out.mk9.drew.pols HT.out) ?_)); rintro e w9 ⟨rfl, h2⟩; have n0_ := Aside0.mk h2; clear HF h2; have HF := n0_; clear n0_; have hq := HF.out.facts9; simp only [nineF] at hq))
    all_goals (go_wp2_with fail; go_meet)
    case rel => exact ⟨_, rfl, ⟨by first | (with_reducible exact HF.out.newNine _ _ _ _ _ _ _ _ _) | (with_reducible exact HF.out.nine H07.out _ _ _ _ _ _ _ _ _)⟩⟩
    case rel => exact ⟨_, rfl, ⟨by first | (with_reducible exact HF.out.newNine _ _ _ _ _ _ _ _ _) | (with_reducible exact HF.out.nine H07.out _ _ _ _ _ _ _ _ _)⟩⟩
    case rel => exact ⟨_, rfl, ⟨by first | (with_reducible exact HF.out.newNine _ _ _ _ _ _ _ _ _) | (with_reducible exact HF.out.nine H07.out _ _ _ _ _ _ _ _ _)⟩⟩
    case rel => exact ⟨_, rfl, ⟨by first | (with_reducible exact HF.out.newNine _ _ _ _ _ _ _ _ _) | (with_reducible exact HF.out.nine H07.out _ _ _ _ _ _ _ _ _)⟩⟩
   case rest =>
    obtain ⟨b, rfl, H9⟩ := hcut
    clear HF
    obtain ⟨y, hy⟩ : ∃ y, y = (pcC s tPols (pcN s (pcI s rx).2).2).2 := ⟨_, rfl⟩
    obtain ⟨f0_, hf0_⟩ : ∃ y, y = (pcI s rx).1 := ⟨_, rfl⟩
    obtain ⟨f1_, hf1_⟩ : ∃ y, y = (pcN s (pcI s rx).2).1 := ⟨_, rfl⟩
    obtain ⟨f2_, hf2_⟩ : ∃ y, y = wrap64 ((pcC s tPols (pcN s (pcI s rx).2).2).1 + 1) := ⟨_, rfl⟩
    have hpF : pcF s rx = (⟨f0_, f1_, f2_, (pcA s y).1⟩, (pcA s y).2) := by rw [pcF, ← hy, ← hf0_, ← hf1_, ← hf2_]
    obtain ⟨A, hA⟩ : ∃ A, A = pcA s y := ⟨_, rfl⟩
    rw [← hA] at hpF
    rw [hpF] at HE
    rw [i64_w, ← hy, ← hf0_, ← hf1_, ← hf2_] at H9
    have hge := pcF_ge s rx
    rw [hpF] at hge
    have HG := Aside0.mk hge
    clear hpF hf0_ hf1_ hf2_ hge
    have HV1 := Aside0.mk (fun k (hk : (Value.slice A1 ls.length c1).ownBlock = some k) => (show k ≠ b from fun e => by have h1 := Kd.R_lt HC7.out.R1 k hk; have h2 := H9.out.2.2.1; omega))
    have HV2 := Aside0.mk (fun k (hk : (Value.slice A2 lf.length c2).ownBlock = some k) => (show k ≠ b from fun e => by have h1 := Kd.R_lt HC7.out.R2 k hk; have h2 := H9.out.2.2.1; omega))
    have HWB := Aside0.mk (show w.heap.size ≤ b from Nat.le_trans HC7.out.K.1 H9.out.2.2.1)
    have HCc := Aside0.mk (HC7.out.turn H9.out.1 H9.out.2.1)
    have hbg : b ≠ g := (HCc.out.S.I.ne_blk H9.out.2.2.2 (by decide)).symm
    clear HC7
    have hbp := HCc.out.cp
    go_wp2_with fail
    have HPA := Aside0.mk (p_anchor w0 wc g s _ HCc.out.S HT.out)
    rw [← hA] at HPA
    clear hA
    refine Calls.mono HPA.out ?_
    rintro e wd ⟨rfl, hS, hK⟩
    have HCd := Aside0.mk (HCc.out.turn hS hK)
    have HBd := Aside0.mk (hK.blk H9.out.2.2.2 hbg (by simp))
    obtain ⟨⟨e0, e1, e2, e3, e4, e5, e6, e7, e8⟩, f0, f1, f2, f3, f4, f5, f6, f7, f8⟩ := Q.nine HBd.out
    clear HCc hS hK hbp H9
    go_upto_region 14 with fail
    obtain ⟨hCe, hBe⟩ := HCd.out.six HBd.out (.inr rfl) HWB.out HV1.out HV2.out (.int .i64 A.1.f0) (.int .i64 A.1.f1) (.int .i64 A.1.f2) (.int .i64 A.1.f3) (.int .i64 A.1.f4) (.int .i64 A.1.f5)
    clear e0 e1 e2 e3 e4 e5 e6 e7 e8 f0 f1 f2 f3 f4 f5 f6 f7 f8
    generalize hWe : World.setCell _ _ _ = we at hCe hBe ⊢
    obtain ⟨⟨e0, e1, e2, e3, e4, e5, e6, e7, e8⟩, _⟩ := Q.nine hBe
    have HCe := Aside0.mk hCe
    have hc2 := hCe.c2
    clear hWe HCd HBd hCe hBe
    have HNE := Aside0.mk (show N ≤ we.heap.size from by have h1 := HCe.out.Z.1; have h2 := HCe.out.K.1; omega)
    have HLN := Aside0.mk (show (lf.length + 1) * 80 ≤ 140737488355328 from by have h1 := HL.out.2; have h2 := HCa.out; have h3 := HCe.out.S.L; have h4 := HG.out; omega)
    have f2 := HCe.out.fz 2
    go_upto_region 15 with (at_builtin; refine Kd.R_append k43 (w0 := we) N rfl (.tmp 51) (.tmp 53) 24 43 (.agg #[.string ⟨#[]⟩, .int .i64 0, .int .i64 0, .int .i64 0, .int .i64 0, .int .i64 0, .int .i64 0, .int .i64 0, .int .i64 0]) 80 rfl Tryd.underlying24 info43 rfl (by decide) (by omega) (.slice A2 lf.length c2) lf (⟨f0_, f1_, f2_, A.1⟩ : S43) [.string f0_, .int .i64 f1_, .int .i64 f2_, .int .i64 A.1.f0, .int .i64 A.1.f1, .int .i64 A.1.f2, .int .i64 A.1.f3, .int .i64 A.1.f4, .int .i64 A.1.f5] (fun _ => True) (fun _ => False) rfl rfl (k43_mkM _ _ _ (⟨f0_, f1_, f2_, A.1⟩ : S43)) (fun _ h => h.elim) (fun _ _ => trivial) HCe.out.R2 (Below.refl _ _) HNE.out HLN.out ?_; intro v3 w8 hr hb hg hat; obtain ⟨A3, c3, rfl⟩ := R_sl_ hr (lf.length + 1) (by simp); have hd8 := blk_cell (HCe.out.cat2 hg) 2; have hf8 := blk_frozen (HCe.out.cat2 hg) 2; have H8 := Aside0.mk (HCe.out.app2 hr hb hg); clear hr hb hg hat)
    have H8_ := H8.out
    clear hd8 hf8 H8 HCe e0 e1 e2 e3 e4 e5 e6 e7 e8 f2 hc2
    generalize World.setCell _ _ _ = w10 at H8_ ⊢
    have H8 := Aside0.mk H8_
    clear H8_
    have h2c : 2 ≤ c := by have := HNC.out; omega
    have h2i : (2 : Int) ≤ (c : Int) := by omega
    have h0c : ¬ c = 0 := by omega
    go_wp2_with fail
    go_roundg k1
    case measure => omega
    case rel =>
     have h1 : x'.1 < rx.1 := by have := HCa.out; omega
     have h2 : rx.1 ≤ A.2.1 := HG.out
     exact ⟨2, c, ls, _, A.2, _, _, rfl, ⟨by omega⟩, H8, HE, ⟨left_step hx HL.out.1 (by omega) H8.out.S.L, by have := HL.out.2; simp; omega⟩⟩
  rw [if_neg r1] at HE
  by_cases r2 : ri = 2
  ·subst r2
   rw [if_pos rfl] at HE
   go_wp2_with fail
   refine Calls.mono HErr.out ?_
   rintro e w6 ⟨rfl, rfl⟩
   go_wp2_with fail
   refine Calls.mono HWd.out ?_
   rintro e w7 ⟨rfl, h7, _⟩
   have HC7 := Aside0.mk h7
   clear HC hbp HErr HWd h7
   have hbp := HC7.out.cp
   have hne := HC7.out.ne.1
   have HF := Aside0.mk (PF.start9 41 HC7.out.S)
   have H07 := Aside0.mk HC7.out.h0
   go_wp2_with fail
   go_cut [5] (fun v5 wc => ∃ b, v5 = .pointer (some ⟨b, 0, none⟩) ∧ Aside0 (Nine w0 w7 wc g s (pcN s (pcN s (pcI s rx).2).2).2 b 41 (.string (pcI s rx).1) (.int .i64 (pcN s (pcI s rx).2).1) (.int .i64 (pcN s (pcN s (pcI s rx).2).2).1) (.int .i64 0) (.int .i64 0) (.int .i64 0) (.int .i64 0) (.int .i64 0) (.int .i64 0)))
   case first =>
    go_region_held3 (fun w' => w'.cell? ⟨N, 0, none⟩ = some (.pointer (some ⟨g, 0, none⟩))) (first | (with_reducible exact keep_cell HF.out.K hbp hne) | (refine keep_cell (g := g) ?_ hbp hne; repeat' (first | (with_reducible exact HF.out.K) | (with_reducible refine keep_far ?_ ?_ _) | (with_reducible refine keep_alloc ?_ _) | (with_reducible refine keep_drew ?_) | exact HF.out.K.1 | exact (HF.out.N _ (List.Mem.head _)).2))) (first | (go_at_call 39; (first | (with_reducible refine Calls.mono (HF.out.idt) ?_) | (with_reducible refine Calls.mono (HF.out.drew.idt) ?_) | (with_reducible refine Calls.mono (HF.out.mk9.idt) ?_) | (with_reducible refine Calls.mono (HF.out.mk9.drew.idt) ?_)); rintro e w9 ⟨rfl, h2⟩; have n0_ := Aside0.mk h2; clear HF h2; have HF := n0_; clear n0_; have hq := HF.out.facts9; simp only [nineF] at hq) | (go_at_call 37; (first | (with_reducible refine Calls.mono (HF.out.num) ?_) | (with_reducible refine Calls.mono (HF.out.drew.num) ?_) | (with_reducible refine Calls.mono (HF.out.mk9.num) ?_) | (with_reducible refine Calls.mono (HF.out.mk9.drew.num) ?_)); rintro e w9 ⟨rfl, h2⟩; have n0_ := Aside0.mk h2; clear HF h2; have HF := n0_; clear n0_; have hq := HF.out.facts9; simp only [nineF] at hq) | (go_at_call 40; (first | (with_reducible refine Calls.mono (HF.out.pols HT.out) ?_) | (with_reducible refine Calls.mono (HF.out.drew.pols HT.out) ?_) | (with_reducible refine Calls.mono (HF.out.mk9.pols HT.out) ?_) | (with_reducible refine Calls.mono (HF.out.mk9.drew.pols HT.out) ?_)); rintro e w9 ⟨rfl, h2⟩; have n0_ := Aside0.mk h2; clear HF h2; have HF := n0_; clear n0_; have hq := HF.out.facts9; simp only [nineF] at hq))
    all_goals (go_wp2_with fail; go_meet)
    case rel => exact ⟨_, rfl, ⟨by first | (with_reducible exact HF.out.newNine _ _ _ _ _ _ _ _ _) | (with_reducible exact HF.out.nine H07.out _ _ _ _ _ _ _ _ _)⟩⟩
    case rel => exact ⟨_, rfl, ⟨by first | (with_reducible exact HF.out.newNine _ _ _ _ _ _ _ _ _) | (with_reducible exact HF.out.nine H07.out _ _ _ _ _ _ _ _ _)⟩⟩
    case rel => exact ⟨_, rfl, ⟨by first | (with_reducible exact HF.out.newNine _ _ _ _ _ _ _ _ _) | (with_reducible exact HF.out.nine H07.out _ _ _ _ _ _ _ _ _)⟩⟩
    case rel => exact ⟨_, rfl, ⟨by first | (with_reducible exact HF.out.newNine _ _ _ _ _ _ _ _ _) | (with_reducible exact HF.out.nine H07.out _ _ _ _ _ _ _ _ _)⟩⟩
   case rest =>
    obtain ⟨b, rfl, H9⟩ := hcut
    clear HF
    obtain ⟨y, hy⟩ : ∃ y, y = (pcN s (pcN s (pcI s rx).2).2).2 := ⟨_, rfl⟩
    obtain ⟨f0_, hf0_⟩ : ∃ y, y = (pcI s rx).1 := ⟨_, rfl⟩
    obtain ⟨f1_, hf1_⟩ : ∃ y, y = (pcN s (pcI s rx).2).1 := ⟨_, rfl⟩
    obtain ⟨f2_, hf2_⟩ : ∃ y, y = (pcN s (pcN s (pcI s rx).2).2).1 := ⟨_, rfl⟩
    have hpS : pcS s rx = (⟨f0_, f1_, f2_, (pcA s y).1⟩, (pcA s y).2) := by rw [pcS, ← hy, ← hf0_, ← hf1_, ← hf2_]
    obtain ⟨A, hA⟩ : ∃ A, A = pcA s y := ⟨_, rfl⟩
    rw [← hA] at hpS
    rw [hpS] at HE
    rw [← hy, ← hf0_, ← hf1_, ← hf2_] at H9
    have hge := pcS_ge s rx
    rw [hpS] at hge
    have HG := Aside0.mk hge
    clear hpS hf0_ hf1_ hf2_ hge
    have HV1 := Aside0.mk (fun k (hk : (Value.slice A1 ls.length c1).ownBlock = some k) => (show k ≠ b from fun e => by have h1 := Kd.R_lt HC7.out.R1 k hk; have h2 := H9.out.2.2.1; omega))
    have HV2 := Aside0.mk (fun k (hk : (Value.slice A2 lf.length c2).ownBlock = some k) => (show k ≠ b from fun e => by have h1 := Kd.R_lt HC7.out.R2 k hk; have h2 := H9.out.2.2.1; omega))
    have HWB := Aside0.mk (show w.heap.size ≤ b from Nat.le_trans HC7.out.K.1 H9.out.2.2.1)
    have HCc := Aside0.mk (HC7.out.turn H9.out.1 H9.out.2.1)
    have hbg : b ≠ g := (HCc.out.S.I.ne_blk H9.out.2.2.2 (by decide)).symm
    clear HC7
    have hbp := HCc.out.cp
    go_wp2_with fail
    have HPA := Aside0.mk (p_anchor w0 wc g s _ HCc.out.S HT.out)
    rw [← hA] at HPA
    clear hA
    refine Calls.mono HPA.out ?_
    rintro e wd ⟨rfl, hS, hK⟩
    have HCd := Aside0.mk (HCc.out.turn hS hK)
    have HBd := Aside0.mk (hK.blk H9.out.2.2.2 hbg (by simp))
    obtain ⟨⟨e0, e1, e2, e3, e4, e5, e6, e7, e8⟩, f0, f1, f2, f3, f4, f5, f6, f7, f8⟩ := Q.nine HBd.out
    clear HCc hS hK hbp H9
    go_upto_region 19 with fail
    obtain ⟨hCe, hBe⟩ := HCd.out.six HBd.out (.inl rfl) HWB.out HV1.out HV2.out (.int .i64 A.1.f0) (.int .i64 A.1.f1) (.int .i64 A.1.f2) (.int .i64 A.1.f3) (.int .i64 A.1.f4) (.int .i64 A.1.f5)
    clear e0 e1 e2 e3 e4 e5 e6 e7 e8 f0 f1 f2 f3 f4 f5 f6 f7 f8
    generalize hWe : World.setCell _ _ _ = we at hCe hBe ⊢
    obtain ⟨⟨e0, e1, e2, e3, e4, e5, e6, e7, e8⟩, _⟩ := Q.nine hBe
    have HCe := Aside0.mk hCe
    have hc2 := hCe.c1
    clear hWe HCd HBd hCe hBe
    have HNE := Aside0.mk (show N ≤ we.heap.size from by have h1 := HCe.out.Z.1; have h2 := HCe.out.K.1; omega)
    have HLN := Aside0.mk (show (ls.length + 1) * 80 ≤ 140737488355328 from by have h1 := HL.out.2; have h2 := HCa.out; have h3 := HCe.out.S.L; have h4 := HG.out; omega)
    have f2 := HCe.out.fz 1
    go_wp2_with (at_builtin; refine Kd.R_append k41 (w0 := we) N rfl (.tmp 71) (.tmp 73) 23 41 (.agg #[.string ⟨#[]⟩, .int .i64 0, .int .i64 0, .int .i64 0, .int .i64 0, .int .i64 0, .int .i64 0, .int .i64 0, .int .i64 0]) 80 rfl Tryd.underlying23 info41 rfl (by decide) (by omega) (.slice A1 ls.length c1) ls (⟨f0_, f1_, f2_, A.1⟩ : S41) [.string f0_, .int .i64 f1_, .int .i64 f2_, .int .i64 A.1.f0, .int .i64 A.1.f1, .int .i64 A.1.f2, .int .i64 A.1.f3, .int .i64 A.1.f4, .int .i64 A.1.f5] (fun _ => True) (fun _ => False) rfl rfl (k41_mkM _ _ _ (⟨f0_, f1_, f2_, A.1⟩ : S41)) (fun _ h => h.elim) (fun _ _ => trivial) HCe.out.R1 (Below.refl _ _) HNE.out HLN.out ?_; intro v3 w8 hr hb hg hat; obtain ⟨A3, c3, rfl⟩ := R_sl_ hr (ls.length + 1) (by simp); have hd8 := blk_cell (HCe.out.cat1 hg) 1; have hf8 := blk_frozen (HCe.out.cat1 hg) 1; have H8 := Aside0.mk (HCe.out.app1 hr hb hg); clear hr hb hg hat)
    go_roundg k1
    case measure => omega
    case rel =>
     have h1 : x'.1 < rx.1 := by have := HCa.out; omega
     have h2 : rx.1 ≤ A.2.1 := HG.out
     exact ⟨n, c, _, lf, A.2, _, _, rfl, ⟨HNC.out⟩, H8, HE, ⟨left_step hx HL.out.1 (by omega) H8.out.S.L, by have := HL.out.2; simp; omega⟩⟩
  rw [if_neg r2] at HE
  go_wp2_with fail
  refine Calls.mono HErr.out ?_
  rintro e w6 ⟨rfl, rfl⟩
  go_wp2_with fail
  refine Calls.mono HWd.out ?_
  rintro e w7 ⟨rfl, h7, _⟩
  have HC7 := Aside0.mk h7
  clear HC hbp HErr HWd h7
  go_wp2_with fail
  go_roundg k1
  case measure => omega
  case rel =>
   have hb : rx.2 = true := by
    rcases HCa.out with h | h
    ·exact h.1
    ·have := HNC.out; omega
   exact ⟨n, c, ls, lf, rx, _, _, rfl, HNC, HC7, HE, ⟨left_fail hx HL.out.1 HWG.out hb, by have := HL.out.2; have := HWG.out; omega⟩⟩
end Go.Proofs.YtlfokdbnbmebiaaDoor.Q
end
section
namespace Go.Proofs.YtlfokdbnbmebiaaDoor.Q
open Go.RowKit Go.Proofs.YtlfokdbnbmebiaaDoorW.PrintWords Go.Proofs.YtlfokdbnbmebiaaDoorW.PrintLast Go.Proofs.YtlfokdbnbmebiaaDoorW.PrintMore
set_option maxRecDepth 100000
def catP (s : ByteArray) : Int × List S41 × List S43 × Int × Int :=
 if (pcCat s (0, false)).2.2.2.2 = true then (0, [], [], ((pcCat s (0, false)).2.2.2.1 : Int), 6) else ((pcCat s (0, false)).1, (pcCat s (0, false)).2.1, (pcCat s (0, false)).2.2.1, 0, 0)
def cattext_Parse.f (a0 : ByteArray) : Option (Int × List S41 × List S43 × Int × Int) := if a0.size ≤ 1000000000 then some (catP a0) else none
theorem results_ctt {P : Program} {fn : Func} {p u1 u2 : Tmp} {ty : TypeId} (h : fn.results = #[.cell p ty, .tmp u1, .tmp u2]) (tmps : Array Value) (w : World) (g : Nat) (t : TypeId) (cs : Array Value) (d : TypeDesc)
  (hp : tmps.getD p undef = .pointer (some ⟨g, 0, none⟩)) (hg : w.heap[g]? = some (.cells cs t (0, 0))) (hu : P.underlying ty = some d) (hd : (match d with | .struct _ | .array _ _ => true | _ => false) = true) (hi : (P.info? ty).map (·.size) = some cs.size) :
  (results fn tmps).run P w = .ok (.tuple #[.agg cs, tmps.getD u1 undef, tmps.getD u2 undef]) w := by
 have hp' : tmps[p]?.getD undef = .pointer (some ⟨g, 0, none⟩) := by simpa using hp
 simp [results, h, hp', asAddr, run_loadVar_row w g t ty cs (0, 0) d hg hu hd hi, Sem.run_bind, Result.andThen]
theorem tri {W : World} {b : Nat} {t : TypeId} {a0 a1 a2 : Value} (h : W.heap[b]? = some (.cells #[a0, a1, a2] t (0, 0))) :
  (W.cell? ⟨b, 0, none⟩ = some a0 ∧ W.cell? ⟨b, 1, none⟩ = some a1 ∧ W.cell? ⟨b, 2, none⟩ = some a2) ∧ (W.frozen? ⟨b, 0, none⟩ = false ∧ W.frozen? ⟨b, 1, none⟩ = false ∧ W.frozen? ⟨b, 2, none⟩ = false) :=
 ⟨⟨blk_cell h 0, blk_cell h 1, blk_cell h 2⟩, ⟨blk_frozen h 0, blk_frozen h 1, blk_frozen h 2⟩⟩
theorem parse_any (w : World) (s : ByteArray) (hT : Tabs w) (hs9 : s.size ≤ 1000000000) :
  Calls Tryd.prog 9 #[.string s] w fun e w' => ∃ v1 v2, e = .returned (.tuple #[.agg #[.int .i64 (catP s).1, v1, v2], .int .i64 (catP s).2.2.2.1, .int .i64 (catP s).2.2.2.2]) ∧
   Kd.R k41 41 w' w.heap.size (fun _ => True) v1 (catP s).2.1 ∧ Kd.R k43 43 w' w.heap.size (fun _ => True) v2 (catP s).2.2.1 ∧ Below w.heap.size w w' := by
 have hu26 := Tryd.underlying26
 obtain ⟨r, hr⟩ : ∃ r, r = pcCat s (0, false) := ⟨_, rfl⟩
 have hcp : catP s = if r.2.2.2.2 = true then (0, [], [], (r.2.2.2.1 : Int), 6) else (r.1, r.2.1, r.2.2.1, 0, 0) := by rw [catP, ← hr]
 obtain ⟨z, hz⟩ : ∃ z, z = catP s := ⟨_, rfl⟩
 rw [← hz]
 rw [hcp] at hz
 have HZZ := Aside0.mk hz
 clear hcp hz
 obtain ⟨N, hN⟩ : ∃ N, N = w.heap.size := ⟨_, rfl⟩
 have hB := below_alloc (Below.refl w.heap.size w) (.cells #[.int .i64 0, .slice none 0 0, .slice none 0 0] 26)
 have hS0 := SP.new w _ s hB (by omega)
 have hS := hS0.alloc (.cells #[.pointer (some ⟨w.heap.size + 1, 0, none⟩)] 47)
 rw [World.size_alloc, ← hN] at hS hS0
 rw [← hN] at hB
 have hres0 : (((w.alloc (.cells #[.int .i64 0, .slice none 0 0, .slice none 0 0] 26)).alloc (.cells #[.string s, .int .i64 0, .bool false] 77)).alloc (.cells #[.pointer (some ⟨N + 1, 0, none⟩)] 47)).heap[N]? = some (.cells #[.int .i64 0, .slice none 0 0, .slice none 0 0] 26 (0, 0)) := by
  rw [hN]; exact blk_alloc (blk_alloc (blk_new w _) _) _
 have hbox0 : (((w.alloc (.cells #[.int .i64 0, .slice none 0 0, .slice none 0 0] 26)).alloc (.cells #[.string s, .int .i64 0, .bool false] 77)).alloc (.cells #[.pointer (some ⟨N + 1, 0, none⟩)] 47)).heap[N + 1 + 1]? = some (.cells #[.pointer (some ⟨N + 1, 0, none⟩)] 47 (0, 0)) := by
  have h := blk_new ((w.alloc (.cells #[.int .i64 0, .slice none 0 0, .slice none 0 0] 26)).alloc (.cells #[.string s, .int .i64 0, .bool false] 77)) (.cells #[.pointer (some ⟨N + 1, 0, none⟩)] 47)
  rw [World.size_alloc, World.size_alloc, ← hN] at h
  exact h
 have HCA := Aside0.mk (p_catalogue w _ (N + 1) s (0, false) hS hT hs9)
 rw [← hr] at HCA
 have HN := Aside0.mk hN
 have HZ0 := Aside0.mk (And.intro hres0 hbox0)
 have HZ1 := Aside0.mk (show (((w.alloc (.cells #[.int .i64 0, .slice none 0 0, .slice none 0 0] 26)).alloc (.cells #[.string s, .int .i64 0, .bool false] 77)).alloc (.cells #[.pointer (some ⟨N + 1, 0, none⟩)] 47)).heap.size = N + 3 by rw [World.size_alloc, World.size_alloc, World.size_alloc, hN])
 clear hB hS0 hS hres0 hbox0 hr hN hT
 go_enter Tryd.func9, Tryd.ntmps9
 go_wp2_with fail
 refine (new_any _ _).mono ?_
 rintro e w1 ⟨rfl, rfl⟩
 go_wp2_with fail
 rw [← HN.out]
 refine Calls.mono HCA.out ?_
 rintro e w2 ⟨v1, v2, rfl, hr1, hr2, hS2, hK2⟩
 rw [HZ1.out] at hr1 hr2
 obtain ⟨A1, c1, rfl⟩ := Kd.R_slice hr1
 obtain ⟨A2, c2, rfl⟩ := Kd.R_slice hr2
 have hg : N + 1 < N + 3 := by omega
 have HR := Aside0.mk (show (w2.heap[N]? = some (.cells #[.int .i64 0, .slice none 0 0, .slice none 0 0] 26 (0, 0)) ∧ w2.heap[N + 1 + 1]? = some (.cells #[.pointer (some ⟨N + 1, 0, none⟩)] 47 (0, 0))) from ⟨hK2.blk HZ0.out.1 (by omega) (by simp), hK2.blk HZ0.out.2 (by omega) (by simp)⟩)
 have HS2 := Aside0.mk hS2
 have H12 := Aside0.mk (And.intro hr1 hr2)
 clear hr1 hr2 hS2 hK2 HCA HZ0 HZ1 hg
 obtain ⟨⟨e0, e1, e2⟩, f0, f1, f2⟩ := tri (blk_new w2 (.cells #[.int .i64 0, .slice none 0 0, .slice none 0 0] 26))
 go_upto_region 3 with fail
 have hC3 := blk_new w2 (.cells #[.int .i64 r.1, .slice A1 r.2.1.length c1, .slice A2 r.2.2.1.length c2] 26)
 have hB3 := below_alloc (Below.refl w2.heap.size w2) (.cells #[.int .i64 r.1, .slice A1 r.2.1.length c1, .slice A2 r.2.2.1.length c2] 26)
 generalize hW3 : World.alloc w2 (.cells #[.int .i64 r.1, .slice A1 r.2.1.length c1, .slice A2 r.2.2.1.length c2] 26) = w3 at hC3 hB3 ⊢
 clear e0 e1 e2 f0 f1 f2 hW3
 have HR3 := Aside0.mk (And.intro (blk_below HR.out.1 hB3) (And.intro (blk_below HR.out.2 hB3) hC3))
 have HS3 := Aside0.mk (HS2.out.below hB3)
 have H3 := Aside0.mk (And.intro (Kd.R_below H12.out.1 hB3) (Kd.R_below H12.out.2 hB3))
 generalize w2.heap.size = bc at hC3 HR3 ⊢
 clear HR HS2 H12 hB3 hC3
 have hbx : w3.cell? ⟨N + 1 + 1, 0, none⟩ = some (.pointer (some ⟨N + 1, 0, none⟩)) := blk_cell HR3.out.2.1 0
 obtain ⟨⟨e0, e1, e2⟩, f0, f1, f2⟩ := tri HR3.out.1
 obtain ⟨⟨i0, i1, i2⟩, _⟩ := tri HR3.out.2.2
 obtain ⟨fl, hfl⟩ : ∃ fl, fl = r.2.2.2.2 := ⟨_, rfl⟩
 have HErr := Aside0.mk HS3.out.err
 rw [← hfl] at HErr
 have HFL := Aside0.mk hfl
 clear hfl
 cases fl with
 | true =>
  go_wp2_with fail
  refine Calls.mono HErr.out ?_
  rintro e w4 ⟨rfl, rfl⟩
  go_wp2_with fail
  refine Calls.mono HS3.out.offset ?_
  rintro e w5 ⟨rfl, rfl⟩
  go_wp2_with fail
  have hzz := HZZ.out
  rw [if_pos HFL.out.symm] at hzz
  subst hzz
  refine bodyPost_ret (v := .tuple #[.agg #[.int .i64 0, .slice none 0 0, .slice none 0 0], .int .i64 r.2.2.2.1, .int .i64 6]) ?_ rfl ?_
  ·have hq := set3c_blk HR3.out.1 (.int .i64 0) (.slice none 0 0) (.slice none 0 0)
   unfold set3c at hq
   exact results_ctt (P := Tryd.prog) (fn := Tryd.f9) (p := 2) (u1 := 3) (u2 := 4) (ty := 26) rfl _ _ N _ _ _ rfl hq hu26 rfl (by kernel_rfl)
  ·exact ⟨_, _, rfl, Kd.R_nil _ _ _ _ _, Kd.R_nil _ _ _ _ _, below_set (below_set (below_set HS3.out.B (by rw [HN.out]; exact Nat.le_refl _)) (by rw [HN.out]; exact Nat.le_refl _)) (by rw [HN.out]; exact Nat.le_refl _)⟩
 | false =>
  go_wp2_with fail
  refine Calls.mono HErr.out ?_
  rintro e w4 ⟨rfl, rfl⟩
  go_wp2_with fail
  have hzz := HZZ.out
  rw [if_neg (by rw [← HFL.out]; decide)] at hzz
  subst hzz
  have hge : w.heap.size ≤ N := by rw [HN.out]; exact Nat.le_refl _
  refine bodyPost_ret (v := .tuple #[.agg #[.int .i64 r.1, .slice A1 r.2.1.length c1, .slice A2 r.2.2.1.length c2], .int .i64 0, .int .i64 0]) ?_ rfl ?_
  ·have hq := set3c_blk HR3.out.1 (.int .i64 r.1) (.slice A1 r.2.1.length c1) (.slice A2 r.2.2.1.length c2)
   unfold set3c at hq
   exact results_ctt (P := Tryd.prog) (fn := Tryd.f9) (p := 2) (u1 := 3) (u2 := 4) (ty := 26) rfl _ _ N _ _ _ rfl hq hu26 rfl (by kernel_rfl)
  ·refine ⟨_, _, rfl, ?_, ?_, below_set (below_set (below_set HS3.out.B hge) hge) hge⟩
   ·exact Kd.R_lower (Kd.R_mono (Kd.R_step (Kd.R_types H3.out.1 HR3.out.1 (by decide)) (fun k hk _ => set3c_far _ N (.int .i64 r.1) (.slice A1 r.2.1.length c1) (.slice A2 r.2.2.1.length c2) k hk.2)) (fun _ _ => trivial)) (by omega)
   ·exact Kd.R_lower (Kd.R_mono (Kd.R_step (Kd.R_types H3.out.2 HR3.out.1 (by decide)) (fun k hk _ => set3c_far _ N (.int .i64 r.1) (.slice A1 r.2.1.length c1) (.slice A2 r.2.2.1.length c2) k hk.2)) (fun _ _ => trivial)) (by omega)
theorem cattext_Parse.calls (a0 : ByteArray) (r1 : Int) (r2 : List S41) (r3 : List S43) (r4 r5 : Int) (w : World) (hT : Tabs w) (h : cattext_Parse.f a0 = some (r1, r2, r3, r4, r5)) :
  Calls Tryd.prog 9 #[.string a0] w fun e w' => ∃ v1_ v2_ : Value, e = .returned (.tuple #[.agg #[.int .i64 r1, v1_, v2_], .int .i64 r4, .int .i64 r5]) ∧ Kd.R k41 41 w' w.heap.size (fun _ => True) v1_ r2 ∧ Kd.R k43 43 w' w.heap.size (fun _ => True) v2_ r3 ∧ Below w.heap.size w w' := by
 unfold cattext_Parse.f at h
 split at h
 ·rename_i hs
  have h := Option.some.inj h
  have H := parse_any w a0 hT hs
  rw [h] at H
  exact H
 ·exact absurd h (by simp)
end Go.Proofs.YtlfokdbnbmebiaaDoor.Q
end
section
namespace Go.Proofs.YtlfokdbnbmebiaaDoor.Q
open Go.RowKit Go.Proofs.YtlfokdbnbmebiaaDoorW.PrintWords Go.Proofs.YtlfokdbnbmebiaaDoorW.PrintLast
set_option maxRecDepth 100000
theorem wN (n : Nat) (h : n ≤ 4611686018427387904) : wrap64 ((n : Int) + 1) = ((n + 1 : Nat) : Int) := by unfold wrap64; omega
instance (l : List ByteArray) : Decidable (Free l) := by unfold Free; infer_instance
structure Wds (l : List ByteArray) : Prop where
 F : Free l
 S : ∀ w ∈ l, 0 < w.size ∧ w.size ≤ 20
 L : l.length ≤ 10
theorem scN_bad {s : ByteArray} {x : Sc} (h : x.2 = true) : scN s x = (0, x) := by unfold scN; rw [if_pos h]
theorem scI_bad {s : ByteArray} {x : Sc} (h : x.2 = true) : scI s x = (⟨#[]⟩, x) := by unfold scI; rw [if_pos h]
theorem scW_bad {s : ByteArray} {l : List ByteArray} {x : Sc} (h : x.2 = true) : scW s l x = (-1, x) := by unfold scW; rw [if_pos h]
theorem scE_bad {s : ByteArray} {x : Sc} (h : x.2 = true) : scE s x = x := by unfold scE; rw [if_pos h]
end Go.Proofs.YtlfokdbnbmebiaaDoor.Q
end
section
namespace Go.Proofs.YtlfokdbnbmebiaaDoor.Q
open Go.RowKit Go.Proofs.YtlfokdbnbmebiaaDoorW.PrintWords Go.Proofs.YtlfokdbnbmebiaaDoorW.PrintLast
set_option maxRecDepth 100000
instance (l : List ByteArray) : Decidable (∀ w ∈ l, 0 < w.size ∧ w.size ≤ 20) := by infer_instance
theorem wdSp : Wds wSp := ⟨by decide +kernel, by decide +kernel, by decide⟩
theorem wdNl : Wds wNl := ⟨by decide +kernel, by decide +kernel, by decide⟩
theorem wdKinds : Wds wKinds := ⟨by decide +kernel, by decide +kernel, by decide⟩
theorem wdDays : Wds tDays := ⟨by decide +kernel, by decide +kernel, by decide⟩
theorem wdPols : Wds tPols := ⟨by decide +kernel, by decide +kernel, by decide⟩
theorem wdHead : Wds wHead := ⟨by decide +kernel, by decide +kernel, by decide⟩
end Go.Proofs.YtlfokdbnbmebiaaDoor.Q
end
section
namespace Go.Proofs.YtlfokdbnbmebiaaDoor.Q
open Go.RowKit Go.Proofs.YtlfokdbnbmebiaaDoorW.PrintWords Go.Proofs.YtlfokdbnbmebiaaDoorW.PrintLast
set_option maxRecDepth 100000
def bEnd : ByteArray := ⟨#[101, 110, 100]⟩
def bFeast : ByteArray := ⟨#[102, 101, 97, 115, 116]⟩
theorem wdH2 : Wds (wHeads.take 2) := ⟨by decide +kernel, by decide +kernel, by decide⟩
theorem wdH3 : Wds (wHeads.take 3) := ⟨by decide +kernel, by decide +kernel, by decide⟩
theorem scW_of {s : ByteArray} {l : List ByteArray} (hl : Wds l) {x : Sc} (hb : x.2 = false) (hx : x.1 ≤ s.size) {r : Bool × Nat × Int} (h : WR s x.1 l r) : scW s l x = (if r.1 then r.2.2 else -1, r.2.1, !r.1) := by
 have h2 := WR_one hx hl.F (scWord_spec hx (fun w hw => (hl.S w hw).1)) h
 unfold scW
 rw [if_neg (by rw [hb]; decide), h2]
end Go.Proofs.YtlfokdbnbmebiaaDoor.Q
end
section
namespace Go.Proofs.YtlfokdbnbmebiaaDoor.Q
open Go.RowKit Go.Proofs.YtlfokdbnbmebiaaDoorW.PrintWords Go.Proofs.YtlfokdbnbmebiaaDoorW.PrintLast
set_option maxRecDepth 100000
theorem catL_bad {s : ByteArray} {x : Sc} (h : x.2 = true) (m n : Nat) (ls : List S41) (lf : List S43) : catL s m n ls lf x = (ls, lf, x) := by
 cases m with
 | zero => rfl
 | succ m => rw [catL, if_pos h]
end Go.Proofs.YtlfokdbnbmebiaaDoor.Q
end
