/- What is proved: what the statement OccurrenceDisplacesSaid needs, part 1 of 6; the last part proves the statement. No condition. -/
import Derived.OrdersHeld
import Derived.Deep.RegionHeld3
import Derived.Laws.BitsLemmas
import Derived.RowKit
import Derived.Below
import Derived.Deep.Draws
import Derived.Deep.AppendLies
import Derived.Maps.AppendAt
import Derived.OwnWalk
import Derived.Laws.BytesArg
import Derived.Laws.MakeOwn
import Derived.Laws.OwnMore
import Derived.Deep.OwnRows
import Derived.Tactics
import Derived.Lib.ConvBytes
import Derived.Laws.Slices
import Derived.WalkKit
import Derived.KernelRfl
import Derived.RowKit3
import Derived.Deep.LoopGhost
import Derived.Deep.QuietTactic
import Derived.BigQuiet
import Derived.WideLaws
import Derived.Deep.DeepCutAuto
import Derived.Deep.CutBlock
import Derived.Laws.Rows
import Derived.Lib.AppendStr
import Derived.ArgAppend
import Derived.Laws.IdiomCopy
import Derived.Laws.StructEq
import Derived.Test.YtopfjjdkffdjpaaProg
import Derived.Lib.SliceRun
import Derived.Lib.Walk
import Derived.IntWalk
import Derived.WalkLawsBesides
import Derived.Deep.DrawnRows
import Derived.Deep.MidRow
import Derived.Shelf.Spec.SlicesInsertGrow
import Derived.Maps.Keyed
import Derived.Maps.OwnOps
import Derived.WideMake
import Derived.Outline
import Derived.Deep.Slices
import Derived.ProofKit
import Derived.OpenShut
import Derived.SizedLaws
import Derived.ChangeSlices
import Derived.Test.YtopfjjdkffdjpaaRows
import Derived.ShutString
import Derived.ChangeOld
set_option maxHeartbeats 8000000
set_option maxRecDepth 100000
set_option linter.unusedVariables false
set_option linter.unusedSimpArgs false
section
-- PRINTED BY print.sh 35421559b90ae4d0a3588c463048766b98c2df88dd9212a6774a882060cdf62d: not written by this session
namespace Go.Proofs.YtopfjjdkffdjpaaW.PrintLast
section
variable {P : Program} {ops : Array Oper} {Q : Exit → Act → World → Prop} {md : Region.Mode} {S : World → Prop} {ds : List Nat}
def Region.reachB (md : Region.Mode) (ops : Array Oper) (i : Nat) : Nat → Nat → Bool
 | 0, _ => false
 | fuel + 1, d => match ops[d]? with
  | some o => o.after.any fun e => Region.binds md e && (e.on == i || Region.reachB md ops i fuel e.on)
  | none => false
def Region.closedB (md : Region.Mode) (ops : Array Oper) (listed : Array Bool) : Bool :=
 (List.range ops.size).all fun j => !listed.getD j false || match ops[j]? with
  | some o => o.after.all fun e => !Region.binds md e || listed.getD e.on false
  | none => true
def Region.lastB (md : Region.Mode) (ops : Array Oper) (listed : Array Bool) (ds : List Nat) (i : Nat) : Bool :=
 ds.all fun d => listed.getD d true || Region.reachB md ops i ops.size d
def ListedClosed (md : Region.Mode) (ops : Array Oper) (listed : Array Bool) : Prop :=
 ∀ j oj, ops[j]? = some oj → listed.getD j false = true → ∀ e ∈ oj.after, Region.binds md e = true → listed.getD e.on false = true
theorem Region.closedB_spec {listed : Array Bool} (h : Region.closedB md ops listed = true) : ListedClosed md ops listed := by
 intro j oj hj hl e he hb
 have hlt : j < ops.size := (Array.getElem?_eq_some_iff.1 hj).1
 have h1 := List.all_eq_true.1 h j (List.mem_range.2 hlt)
 simp only [hl, hj, Bool.not_true, Bool.false_or] at h1
 have h2 := Array.all_eq_true_iff_forall_mem.1 h1 e he
 simpa [hb] using h2
theorem ListedClosed.set {listed : Array Bool} {i : Nat} (h : ListedClosed md ops listed) (hi : i ∈ Region.ready md ops listed) : ListedClosed md ops (listed.setIfInBounds i true) := by
 obtain ⟨_, oi, hoi, hall⟩ := mem_ready.1 hi
 intro j oj hj hl e he hb
 by_cases hij : i = j
 ·subst hij
  have : oj = oi := Option.some.inj (hj.symm.trans hoi)
  subst this
  exact getD_set_true (hall e he hb)
 ·rw [getD_set_ne false hij] at hl
  exact getD_set_true (h j oj hj hl e he hb)
theorem Region.reach_listed {listed : Array Bool} {i : Nat} (hc : ListedClosed md ops listed) : ∀ (fuel d : Nat), Region.reachB md ops i fuel d = true → listed.getD d false = true → listed.getD i false = true
 | 0, _, h, _ => by simp [Region.reachB] at h
 | fuel + 1, d, h, hl => by
  unfold Region.reachB at h
  cases ho : ops[d]? with
  | none => rw [ho] at h; simp at h
  | some o =>
   rw [ho] at h
   obtain ⟨e, he, h1⟩ := Array.any_eq_true'.1 h
   simp only [Bool.and_eq_true, Bool.or_eq_true, beq_iff_eq] at h1
   have hle := hc d o ho hl e he h1.1
   rcases h1.2 with h2 | h2
   ·rw [← h2]; exact hle
   ·exact Region.reach_listed hc fuel e.on h2 hle
theorem Region.reach_not_ready {listed : Array Bool} {i d fuel : Nat} (hc : ListedClosed md ops listed) (hr : Region.reachB md ops i fuel d = true) (hun : listed.getD i true = false) : d ∉ Region.ready md ops listed := by
 intro hd
 obtain ⟨_, o, ho, hall⟩ := mem_ready.1 hd
 have hi : listed.getD i false = true := by
  cases fuel with
  | zero => simp [Region.reachB] at hr
  | succ n =>
   unfold Region.reachB at hr
   rw [ho] at hr
   obtain ⟨e, he, h1⟩ := Array.any_eq_true'.1 hr
   simp only [Bool.and_eq_true, Bool.or_eq_true, beq_iff_eq] at h1
   have hle := hall e he h1.1
   rcases h1.2 with h2 | h2
   ·rw [← h2]; exact hle
   ·exact Region.reach_listed hc n e.on h2 hle
 rcases Nat.lt_or_ge i listed.size with h' | h'
 ·simp [h'] at hun hi
  rw [hun] at hi
  cases hi
 ·simp [Array.getElem?_eq_none h'] at hun
def wpAnyLast (P : Program) (md : Region.Mode) (ops : Array Oper) (Q : Exit → Act → World → Prop) (S : World → Prop) (ds : List Nat) : Nat → Array Bool → Act → World → Prop
 | 0, listed, a, w => Region.ready md ops listed = [] ∧ Q .normal a w
 | fuel + 1, listed, a, w =>
  (Region.ready md ops listed = [] → Q .normal a w) ∧
  ∀ i ∈ Region.ready md ops listed, wpOp P ops Q i (fun a' w' => (i ∉ ds → S w → S w') ∧ wpAnyLast P md ops Q S ds fuel (listed.setIfInBounds i true) a' w') a w
theorem wpAny_of_last : ∀ (fuel : Nat) (listed : Array Bool) (a : Act) (w : World), wpAnyLast P md ops Q S ds fuel listed a w → wpAny P md ops Q fuel listed a w
 | 0, _, _, _, h => h
 | fuel + 1, _, _, _, h => ⟨h.1, fun i hi => wpOp_mono (fun a' w' h' => wpAny_of_last fuel _ a' w' h'.2) (h.2 i hi)⟩
theorem wpAnyLast_first {i : Nat} {oi : Oper} {v : Value} (hi : ops[i]? = some oi) (hsel : ∀ (j : Nat) (o : Oper) cs b, ops[j]? = some o → o.op ≠ .select cs b)
  (hQ : ∀ c a w, Q (.panic c) (a.put oi.dst v) w → Q (.panic c) a w) (n : Nat) :
  ∀ (fuel : Nat) (listed : Array Bool) (a : Act) (w : World),
   (∀ j oj, ops[j]? = some oj → j ≠ i → listed.getD j true = false → (∀ e ∈ oj.after, Region.binds md e = true → e.on ≠ i) → oi.apart ops oj = true) →
   ListedClosed md ops listed → (∀ d ∈ ds, listed.getD d true = false → Region.reachB md ops i n d = true) →
   i ∈ Region.ready md ops listed → YieldsIf P ops S oi v a → S w →
   wpAnyLast P md ops Q S ds fuel (listed.setIfInBounds i true) (a.put oi.dst v) w → wpAnyLast P md ops Q S ds (fuel + 1) listed a w := by
 intro fuel
 induction fuel with
 | zero =>
  intro listed a w _ _ _ hr hy hS H
  refine ⟨fun h => (by rw [h] at hr; cases hr), fun j hj => ?_⟩
  by_cases hji : j = i
  ·subst hji; exact hy.wpOp hi hS ⟨fun _ h => h, H⟩
  ·have := ready_mono hj hji
   rw [H.1] at this
   cases this
 | succ fuel ih =>
  intro listed a w hfree hc hd hr hy hS H
  refine ⟨fun h => (by rw [h] at hr; cases hr), fun j hj => ?_⟩
  by_cases hji : j = i
  ·subst hji; exact hy.wpOp hi hS ⟨fun _ h => h, H⟩
  ·have h1 := H.2 j (ready_mono hj hji)
   obtain ⟨hjun, oj, hoj, hall⟩ := mem_ready.1 hj
   have hiun := (mem_ready.1 hr).1
   have hnot : ∀ e ∈ oj.after, Region.binds md e = true → e.on ≠ i := fun e he hb heq => by
    have h1 := hall e he hb
    rw [heq] at h1
    rcases Nat.lt_or_ge i listed.size with h' | h'
    ·simp [h'] at hiun h1; rw [hiun] at h1; cases h1
    ·simp [Array.getElem?_eq_none h'] at h1
   have hjd : j ∉ ds := fun hm => Region.reach_not_ready hc (hd j hm hjun) hiun hj
   have h2 := wpOp_putIf hoj (hfree j oj hoj hji hjun hnot) (fun cs b => hsel i oi cs b hi) (fun cs b => hsel j oj cs b hoj) hQ hy h1
   have hfree' : ∀ k ok, ops[k]? = some ok → k ≠ i → (listed.setIfInBounds j true).getD k true = false →
     (∀ e ∈ ok.after, Region.binds md e = true → e.on ≠ i) → oi.apart ops ok = true := fun k ok hk hki hun hno => by
    refine hfree k ok hk hki ?_ hno
    by_cases hjk : j = k
    ·subst hjk; exact hjun
    ·rw [getD_set_ne true hjk] at hun; exact hun
   have hd' : ∀ d ∈ ds, (listed.setIfInBounds j true).getD d true = false → Region.reachB md ops i n d = true := fun d hm hun => by
    refine hd d hm ?_
    by_cases hjk : j = d
    ·subst hjk; exact hjun
    ·rw [getD_set_ne true hjk] at hun; exact hun
   refine wpOp_mono (fun a' w' h3 => ⟨h3.2.1, ih (listed.setIfInBounds j true) a' w' hfree' (hc.set hj) hd' (ready_mono hr (Ne.symm hji)) h3.1 (h3.2.1 hjd hS) ?_⟩) h2
   rw [Array.setIfInBounds_comm _ _ hji]
   exact h3.2.2
theorem wpAnyLast_any {i : Nat} {oi : Oper} {v : Value} (hi : ops[i]? = some oi) (hsel : ∀ (j : Nat) (o : Oper) cs b, ops[j]? = some o → o.op ≠ .select cs b)
  (hQ : ∀ c a w, Q (.panic c) (a.put oi.dst v) w → Q (.panic c) a w) :
  ∀ (fuel : Nat) (listed : Array Bool) (a : Act) (w : World),
   (∀ j oj, ops[j]? = some oj → j ≠ i → listed.getD j true = false → (∀ e ∈ oj.after, Region.binds md e = true → e.on ≠ i) → oi.apart ops oj = true) →
   i ∈ Region.ready md ops listed → Yields P ops oi v a →
   wpAnyLast P md ops Q S ds fuel (listed.setIfInBounds i true) (a.put oi.dst v) w → wpAnyLast P md ops Q S ds (fuel + 1) listed a w := by
 intro fuel
 induction fuel with
 | zero =>
  intro listed a w _ hr hy H
  refine ⟨fun h => (by rw [h] at hr; cases hr), fun j hj => ?_⟩
  by_cases hji : j = i
  ·subst hji; exact (hy.yieldsIf (S := fun _ => True)).wpOp hi trivial ⟨fun _ h => h, H⟩
  ·have := ready_mono hj hji
   rw [H.1] at this
   cases this
 | succ fuel ih =>
  intro listed a w hfree hr hy H
  refine ⟨fun h => (by rw [h] at hr; cases hr), fun j hj => ?_⟩
  by_cases hji : j = i
  ·subst hji; exact (hy.yieldsIf (S := fun _ => True)).wpOp hi trivial ⟨fun _ h => h, H⟩
  ·have h1 := H.2 j (ready_mono hj hji)
   obtain ⟨hjun, oj, hoj, hall⟩ := mem_ready.1 hj
   have hiun := (mem_ready.1 hr).1
   have hnot : ∀ e ∈ oj.after, Region.binds md e = true → e.on ≠ i := fun e he hb heq => by
    have h1 := hall e he hb
    rw [heq] at h1
    rcases Nat.lt_or_ge i listed.size with h' | h'
    ·simp [h'] at hiun h1; rw [hiun] at h1; cases h1
    ·simp [Array.getElem?_eq_none h'] at h1
   have h2 := wpOp_put hoj (hfree j oj hoj hji hjun hnot) (fun cs b => hsel i oi cs b hi) (fun cs b => hsel j oj cs b hoj) hQ hy h1
   have hfree' : ∀ k ok, ops[k]? = some ok → k ≠ i → (listed.setIfInBounds j true).getD k true = false →
     (∀ e ∈ ok.after, Region.binds md e = true → e.on ≠ i) → oi.apart ops ok = true := fun k ok hk hki hun hno => by
    refine hfree k ok hk hki ?_ hno
    by_cases hjk : j = k
    ·subst hjk; exact hjun
    ·rw [getD_set_ne true hjk] at hun; exact hun
   refine wpOp_mono (fun a' w' h3 => ⟨h3.2.1, ih (listed.setIfInBounds j true) a' w' hfree' (ready_mono hr (Ne.symm hji)) h3.1 ?_⟩) h2
   rw [Array.setIfInBounds_comm _ _ hji]
   exact h3.2.2
theorem wpAnyLast_take {i : Nat} {oi : Oper} {v : Value} {fuel : Nat} {listed : Array Bool} {a : Act} {w : World} (hi : ops[i]? = some oi)
  (hs : Region.noSelect ops = true) (hf : Region.free md ops listed i = true) (hr : (Region.ready md ops listed).contains i = true)
  (hc : Region.closedB md ops listed = true) (hl : Region.lastB md ops listed ds i = true)
  (hQ : ∀ c a w, Q (.panic c) (a.put oi.dst v) w → Q (.panic c) a w) (hy : YieldsIf P ops S oi v a) (hS : S w)
  (h : wpAnyLast P md ops Q S ds fuel (listed.setIfInBounds i true) (a.put oi.dst v) w) : wpAnyLast P md ops Q S ds (fuel + 1) listed a w :=
 wpAnyLast_first hi (Region.noSelect_spec hs) hQ ops.size fuel listed a w (Region.free_spec hi hf) (Region.closedB_spec hc)
  (fun d hm hun => by have := List.all_eq_true.1 hl d hm; rw [hun] at this; simpa using this) (by simpa using hr) hy hS h
theorem wpAnyLast_all {rs : List Nat} {fuel : Nat} {listed : Array Bool} {a : Act} {w : World} (hr : Region.ready md ops listed = rs) (hne : rs ≠ [])
  (h : ∀ i ∈ rs, wpOp P ops Q i (fun a' w' => (i ∉ ds → S w → S w') ∧ wpAnyLast P md ops Q S ds fuel (listed.setIfInBounds i true) a' w') a w) : wpAnyLast P md ops Q S ds (fuel + 1) listed a w :=
 ⟨fun h0 => absurd (hr ▸ h0) hne, hr ▸ h⟩
theorem wpAnyLast_done {listed : Array Bool} {a : Act} {w : World} (hr : Region.ready md ops listed = []) (h : Q .normal a w) :
  ∀ fuel, wpAnyLast P md ops Q S ds fuel listed a w
 | 0 => ⟨hr, h⟩
 | _ + 1 => ⟨fun _ => h, by rw [hr]; simp⟩
theorem wp_region_last {id : Nat} {a : Act} {w : World} (hm : P.follows .mixedOrders = true)
  (h : wpAnyLast P .any ops Q S ds ops.size (Array.replicate ops.size false) a { w with drawn := w.drawn + 1 }) : (Code.region id ops true).wp P Q a w :=
 wp_region_any hm (wpAny_of_last _ _ _ _ h)
end
section
variable {P : Program} {ops : Array Oper} {Q : Exit → Act → World → Prop} {md : Region.Mode} {S : World → Prop} {ds : List Nat}
def AllReadyL (P : Program) (md : Region.Mode) (ops : Array Oper) (Q : Exit → Act → World → Prop) (S : World → Prop) (ds : List Nat) (fuel : Nat) (listed : Array Bool) (a : Act) (w : World) (rs : List Nat) : Prop :=
 ∀ i ∈ rs, wpOp P ops Q i (fun a' w' => (i ∉ ds → S w → S w') ∧ wpAnyLast P md ops Q S ds fuel (listed.setIfInBounds i true) a' w') a w
theorem AllReadyL.nil {fuel : Nat} {listed : Array Bool} {a : Act} {w : World} : AllReadyL P md ops Q S ds fuel listed a w [] := fun _ h => by cases h
theorem AllReadyL.cons {fuel : Nat} {listed : Array Bool} {a : Act} {w : World} {i : Nat} {o : Oper} {rs : List Nat} (ho : ops[i]? = some o) (hd : i ∉ ds)
  (h : ∀ K' : Act → World → Prop, Shut (∀ a w, S w → (S w → wpAnyLast P md ops Q S ds fuel (listed.setIfInBounds i true) a w) → K' a w) → if Region.wanted o (yielded ops a.tmps) = true then Oper.wp P o a w K' Q else K' (a.put o.dst undef) w)
  (hs : AllReadyL P md ops Q S ds fuel listed a w rs) : AllReadyL P md ops Q S ds fuel listed a w (i :: rs) := fun j hj => by
 rcases List.mem_cons.1 hj with rfl | hj
 ·exact wpOp_step ho (fun K' hK => h K' (fun a w hS hW => hK a w ⟨fun _ _ => hS, hW hS⟩))
 ·exact hs j hj
theorem AllReadyL.cons_last {fuel : Nat} {listed : Array Bool} {a : Act} {w : World} {i : Nat} {o : Oper} {rs : List Nat} (ho : ops[i]? = some o) (hd : i ∈ ds)
  (h : ∀ K' : Act → World → Prop, Shut (∀ a w, wpAnyLast P md ops Q S ds fuel (listed.setIfInBounds i true) a w → K' a w) → if Region.wanted o (yielded ops a.tmps) = true then Oper.wp P o a w K' Q else K' (a.put o.dst undef) w)
  (hs : AllReadyL P md ops Q S ds fuel listed a w rs) : AllReadyL P md ops Q S ds fuel listed a w (i :: rs) := fun j hj => by
 rcases List.mem_cons.1 hj with rfl | hj
 ·exact wpOp_step ho (fun K' hK => h K' (fun a w hW => hK a w ⟨fun hn => absurd hd hn, hW⟩))
 ·exact hs j hj
theorem wpAnyLast_ready {rs : List Nat} {fuel : Nat} {listed : Array Bool} {a : Act} {w : World} (hr : Region.ready md ops listed = rs) (hne : rs ≠ [])
  (h : AllReadyL P md ops Q S ds fuel listed a w rs) : wpAnyLast P md ops Q S ds (fuel + 1) listed a w := wpAnyLast_all hr hne h
theorem start_ {id n : Nat} {a : Act} {w : World} (l : Array Bool) (hm : P.follows .mixedOrders = true) (hn : ops.size = n) (hl : Array.replicate n false = l) (hS : S w.drew)
  (h : S w.drew → wpAnyLast P .any ops Q S ds n l a w.drew) : (Code.region id ops true).wp P Q a w := by
 subst hn
 subst hl
 exact wp_region_last hm (h hS)
def takeB (md : Region.Mode) (ops : Array Oper) (ds : List Nat) (l l' : Array Bool) (i : Nat) : Bool :=
 Region.noSelect ops && Region.free md ops l i && (Region.ready md ops l).contains i && Region.closedB md ops l && Region.lastB md ops l ds i && (l.setIfInBounds i true == l')
theorem take_ {i : Nat} {N : Option Tmp} {oi : Oper} {v : Value} {fuel : Nat} {l : Array Bool} {a : Act} {w : World} (l' : Array Bool) (hi : ops[i]? = some oi) (hN : oi.dst = N) (hc : takeB md ops ds l l' i = true)
  (hQ : ∀ c a w, Q (.panic c) (a.put oi.dst v) w → Q (.panic c) a w) (hy : YieldsIf P ops S oi v a) (hS : S w) {a' : Act} (ha : a.put N v = a')
  (h : wpAnyLast P md ops Q S ds fuel l' a' w) : wpAnyLast P md ops Q S ds (fuel + 1) l a w := by
 subst ha
 subst hN
 simp only [takeB, Bool.and_eq_true, beq_iff_eq] at hc
 obtain ⟨⟨⟨⟨⟨h1, h2⟩, h3⟩, h4⟩, h5⟩, h6⟩ := hc
 subst h6
 exact wpAnyLast_take hi h1 h2 h3 h4 h5 hQ hy hS h
def anyB (md : Region.Mode) (ops : Array Oper) (l l' : Array Bool) (i : Nat) : Bool :=
 Region.noSelect ops && Region.free md ops l i && (Region.ready md ops l).contains i && (l.setIfInBounds i true == l')
theorem pure_ {i : Nat} {N : Option Tmp} {oi : Oper} {v : Value} {fuel : Nat} {l : Array Bool} {a : Act} {w : World} (l' : Array Bool) (hi : ops[i]? = some oi) (hN : oi.dst = N) (hc : anyB md ops l l' i = true)
  (hQ : ∀ c a w, Q (.panic c) (a.put oi.dst v) w → Q (.panic c) a w) (hy : Yields P ops oi v a) {a' : Act} (ha : a.put N v = a')
  (h : wpAnyLast P md ops Q S ds fuel l' a' w) : wpAnyLast P md ops Q S ds (fuel + 1) l a w := by
 subst ha
 subst hN
 simp only [anyB, Bool.and_eq_true, beq_iff_eq] at hc
 obtain ⟨⟨⟨h1, h2⟩, h3⟩, h6⟩ := hc
 subst h6
 exact wpAnyLast_any hi (Region.noSelect_spec h1) hQ fuel l a w (Region.free_spec hi h2) (by simpa using h3) hy h
def readyB (md : Region.Mode) (ops : Array Oper) (l l' : Array Bool) (i : Nat) : Bool := (Region.ready md ops l == [i]) && (l.setIfInBounds i true == l')
theorem one_ {i : Nat} {N : Option Tmp} {oi : Oper} {fuel : Nat} {l : Array Bool} {a : Act} {w : World} (l' : Array Bool) (hi : ops[i]? = some oi) (hN : oi.dst = N) (hc : readyB md ops l l' i = true) (hd : i ∉ ds)
  (h : ∀ K : Act → World → Prop, Shut (∀ a' w', S w' → (S w' → wpAnyLast P md ops Q S ds fuel l' a' w') → K a' w') → if Region.wanted oi (yielded ops a.tmps) = true then Oper.wp P oi a w K Q else K (a.put N undef) w) :
  wpAnyLast P md ops Q S ds (fuel + 1) l a w := by
 subst hN
 simp only [readyB, Bool.and_eq_true, beq_iff_eq] at hc
 obtain ⟨h1, h2⟩ := hc
 subst h2
 exact wpAnyLast_ready h1 (by simp) (AllReadyL.cons hi hd (fun K hK => h K hK) AllReadyL.nil)
theorem last_ {i : Nat} {N : Option Tmp} {oi : Oper} {fuel : Nat} {l : Array Bool} {a : Act} {w : World} (l' : Array Bool) (hi : ops[i]? = some oi) (hN : oi.dst = N) (hc : readyB md ops l l' i = true) (hd : i ∈ ds)
  (h : ∀ K : Act → World → Prop, Shut (∀ a' w', wpAnyLast P md ops Q S ds fuel l' a' w' → K a' w') → if Region.wanted oi (yielded ops a.tmps) = true then Oper.wp P oi a w K Q else K (a.put N undef) w) :
  wpAnyLast P md ops Q S ds (fuel + 1) l a w := by
 subst hN
 simp only [readyB, Bool.and_eq_true, beq_iff_eq] at hc
 obtain ⟨h1, h2⟩ := hc
 subst h2
 exact wpAnyLast_ready h1 (by simp) (AllReadyL.cons_last hi hd (fun K hK => h K hK) AllReadyL.nil)
theorem done_ {l : Array Bool} {a : Act} {w : World} {n : Nat} (hr : (Region.ready md ops l == []) = true) (h : Q .normal a w) : wpAnyLast P md ops Q S ds n l a w := wpAnyLast_done (by simpa using hr) h n
theorem two_ {i j : Nat} {Ni Nj : Option Tmp} {oi oj : Oper} {fuel : Nat} {l : Array Bool} {a : Act} {w : World} (li lj : Array Bool) (hi : ops[i]? = some oi) (hj : ops[j]? = some oj) (hNi : oi.dst = Ni) (hNj : oj.dst = Nj)
  (hc : (Region.ready md ops l == [i, j] && l.setIfInBounds i true == li && l.setIfInBounds j true == lj) = true) (hdi : i ∉ ds) (hdj : j ∉ ds)
  (h1 : ∀ K : Act → World → Prop, Shut (∀ a' w', S w' → (S w' → wpAnyLast P md ops Q S ds fuel li a' w') → K a' w') → if Region.wanted oi (yielded ops a.tmps) = true then Oper.wp P oi a w K Q else K (a.put Ni undef) w)
  (h2 : ∀ K : Act → World → Prop, Shut (∀ a' w', S w' → (S w' → wpAnyLast P md ops Q S ds fuel lj a' w') → K a' w') → if Region.wanted oj (yielded ops a.tmps) = true then Oper.wp P oj a w K Q else K (a.put Nj undef) w) :
  wpAnyLast P md ops Q S ds (fuel + 1) l a w := by
 subst hNi
 subst hNj
 simp only [Bool.and_eq_true, beq_iff_eq] at hc
 obtain ⟨⟨h3, h4⟩, h5⟩ := hc
 subst h4
 subst h5
 exact wpAnyLast_ready h3 (by simp) (AllReadyL.cons hi hdi (fun K hK => h1 K hK) (AllReadyL.cons hj hdj (fun K hK => h2 K hK) AllReadyL.nil))
theorem three_ {i j k : Nat} {Ni Nj Nk : Option Tmp} {oi oj ok : Oper} {fuel : Nat} {l : Array Bool} {a : Act} {w : World} (li lj lk : Array Bool) (hi : ops[i]? = some oi) (hj : ops[j]? = some oj) (hk : ops[k]? = some ok) (hNi : oi.dst = Ni) (hNj : oj.dst = Nj) (hNk : ok.dst = Nk)
  (hc : (Region.ready md ops l == [i, j, k] && l.setIfInBounds i true == li && l.setIfInBounds j true == lj && l.setIfInBounds k true == lk) = true) (hdi : i ∉ ds) (hdj : j ∉ ds) (hdk : k ∉ ds)
  (h1 : ∀ K : Act → World → Prop, Shut (∀ a' w', S w' → (S w' → wpAnyLast P md ops Q S ds fuel li a' w') → K a' w') → if Region.wanted oi (yielded ops a.tmps) = true then Oper.wp P oi a w K Q else K (a.put Ni undef) w)
  (h2 : ∀ K : Act → World → Prop, Shut (∀ a' w', S w' → (S w' → wpAnyLast P md ops Q S ds fuel lj a' w') → K a' w') → if Region.wanted oj (yielded ops a.tmps) = true then Oper.wp P oj a w K Q else K (a.put Nj undef) w)
  (h3 : ∀ K : Act → World → Prop, Shut (∀ a' w', S w' → (S w' → wpAnyLast P md ops Q S ds fuel lk a' w') → K a' w') → if Region.wanted ok (yielded ops a.tmps) = true then Oper.wp P ok a w K Q else K (a.put Nk undef) w) :
  wpAnyLast P md ops Q S ds (fuel + 1) l a w := by
 subst hNi
 subst hNj
 subst hNk
 simp only [Bool.and_eq_true, beq_iff_eq] at hc
 obtain ⟨⟨⟨h4, h5⟩, h6⟩, h7⟩ := hc
 subst h5
 subst h6
 subst h7
 exact wpAnyLast_ready h4 (by simp) (AllReadyL.cons hi hdi (fun K hK => h1 K hK) (AllReadyL.cons hj hdj (fun K hK => h2 K hK) (AllReadyL.cons hk hdk (fun K hK => h3 K hK) AllReadyL.nil)))
def putAll : Act → List (Tmp × Value) → Act
 | a, [] => a
 | a, (n, v) :: r => putAll (a.put (some n) v) r
theorem join_ {σ : Type} {fuel : Nat} {l : Array Bool} {a : Act} {w : World} (fuel' : Nat) (l' : Array Bool) (ns : σ → List (Tmp × Value)) (F : σ → World → Prop)
  (hcont : ∀ s w', F s w' → wpAnyLast P md ops Q S ds fuel' l' (putAll a (ns s)) w')
  (h : (∀ s w', F s w' → wpAnyLast P md ops Q S ds fuel' l' (putAll a (ns s)) w') → wpAnyLast P md ops Q S ds fuel l a w) : wpAnyLast P md ops Q S ds fuel l a w := h hcont
theorem norm_ {fuel : Nat} {l : Array Bool} {a a' : Act} {w : World} (ha : a = a') (h : wpAnyLast P md ops Q S ds fuel l a' w) : wpAnyLast P md ops Q S ds fuel l a w := by
 subst ha
 exact h
theorem call_ {oi : Oper} {N : Option Tmp} {a : Act} {w : World} {K : Act → World → Prop} (f : FuncId) (args : Array Value) (hw : Region.wanted oi (yielded ops a.tmps) = true) (hN : oi.dst = N) (hrun : (execOp a.eval oi).run P w = .ok (.enter f args) w)
  (h : Calls P f args w fun e w' => ∃ v, e = .returned v ∧ K (a.put N v) w') : if Region.wanted oi (yielded ops a.tmps) = true then Oper.wp P oi a w K Q else K (a.put N undef) w := by
 rw [if_pos hw]
 subst hN
 unfold Oper.wp
 rw [hrun, Oper.upon_enter]
 refine h.mono fun e w'' hh => ?_
 obtain ⟨v, rfl, hk⟩ := hh
 exact hk
theorem enters_ {f : FuncId} {fn : Func} (hf : P.funcs[f]? = some fn) (hname : (fn.name == "runtime.NumGoroutine") = false) (hb : fn.body.isSome = true) (args : Array Value) (w : World) : (callFunc f args).run P w = .ok (.enter f args) w := by
 have h1 : fn.name ≠ "runtime.NumGoroutine" := by simpa using hname
 obtain ⟨c, hc⟩ := Option.isSome_iff_exists.1 hb
 simp [callFunc, hf, h1, hc]
theorem goes_ {oi : Oper} {N : Option Tmp} {a : Act} {w : World} {K : Act → World → Prop} {f : FuncId} {fn : Func} {as0 : Array Operand} {ts : Array TypeId} (hf : P.funcs[f]? = some fn) (hname : (fn.name == "runtime.NumGoroutine") = false) (hb : fn.body.isSome = true) (args : Array Value)
  (hw : Region.wanted oi (yielded ops a.tmps) = true) (hN : oi.dst = N) (hop : oi.op = .call { callee := .value (.func f), args := as0, argTypes := ts }) (hargs : as0.map a.eval = args)
  (h : Calls P f args w fun e w' => ∃ v, e = .returned v ∧ K (a.put N v) w') : if Region.wanted oi (yielded ops a.tmps) = true then Oper.wp P oi a w K Q else K (a.put N undef) w := by
 refine call_ f args hw hN ?_ h
 have he := enters_ hf hname hb args w
 unfold execOp
 simp [hop, resolve, Deferred.ofValue, invoke, Act.eval, hargs, he]
theorem goesL_ {rest : List Oper} {oi : Oper} {a : Act} {w : World} (N : Option Tmp) (hd : oi.dst = N) (hg : oi.guard = none) {f : FuncId} {fn : Func} {as0 : Array Operand} {ts : Array TypeId} (hf : P.funcs[f]? = some fn) (hname : (fn.name == "runtime.NumGoroutine") = false) (hb : fn.body.isSome = true) (args : Array Value)
  (hop : oi.op = .call { callee := .value (.func f), args := as0, argTypes := ts }) (hargs : as0.map a.eval = args)
  (h : Calls P f args w fun e w' => ∃ v, e = .returned v ∧ wpList P ops Q rest (a.put N v) w') : wpList P ops Q (oi :: rest) a w := by
 refine wpList_plain hg fun K hK => ?_
 have he := enters_ hf hname hb args w
 have hrun : (execOp a.eval oi).run P w = .ok (.enter f args) w := by
  unfold execOp
  simp [hop, resolve, Deferred.ofValue, invoke, Act.eval, hargs, he]
 unfold Oper.wp
 rw [hrun, Oper.upon_enter]
 refine h.mono fun e w'' hh => ?_
 obtain ⟨v, rfl, hk⟩ := hh
 subst hd
 exact hK _ _ hk
theorem value_ {oi : Oper} {N : Option Tmp} {a : Act} {w w1 : World} {v : Value} {K : Act → World → Prop} (hw : Region.wanted oi (yielded ops a.tmps) = true) (hN : oi.dst = N) (hrun : (execOp a.eval oi).run P w = .ok (.value v) w1)
  (h : K (a.put N v) w1) : if Region.wanted oi (yielded ops a.tmps) = true then Oper.wp P oi a w K Q else K (a.put N undef) w := by
 rw [if_pos hw]
 subst hN
 unfold Oper.wp
 rw [hrun]
 exact h
theorem skip_ {oi : Oper} {a : Act} {w w1 : World} {K : Act → World → Prop} (hw : Region.wanted oi (yielded ops a.tmps) = true) (hN : oi.dst = none) (hrun : (execOp a.eval oi).run P w = .ok .skip w1)
  (h : K a w1) : if Region.wanted oi (yielded ops a.tmps) = true then Oper.wp P oi a w K Q else K (a.put none undef) w := by
 rw [if_pos hw]
 unfold Oper.wp
 rw [hrun]
 show K (a.put oi.dst undef) w1
 rw [hN]
 exact h
theorem i64_w (n : Int) : IntKind.i64.wrap n = Go.RowKit.wrap64 n := by unfold Go.RowKit.wrap64; exact IntKind.wrap_i64 n
theorem i32_w (n : Int) : IntKind.i32.wrap n = Go.RowKit.wrap32 n := by unfold Go.RowKit.wrap32; exact IntKind.wrap_i32 n
end
end Go.Proofs.YtopfjjdkffdjpaaW.PrintLast
end
section
-- PRINTED BY print.sh 35421559b90ae4d0a3588c463048766b98c2df88dd9212a6774a882060cdf62d: not written by this session
-- PRINTED WORDS (module Derived/Print/Words.lean): go-wishes' parts 1 to 38 and go-gate-2's additions: AI agents of Go's test side, Mon Nov 16 2026; no person has read them. Plain theorems and definitions: no macro, no elab, no axiom.
namespace Go.Proofs.YtopfjjdkffdjpaaW.PrintWords
open Go.RowKit
structure Aside0 (p : Prop) : Prop where mk :: (out : p)
structure Drawn0 (w w' : World) : Prop where mk :: (out : ∃ n, w' = w.drewN n)
theorem Drawn0.refl (w : World) : Drawn0 w w := ⟨⟨0, rfl⟩⟩
theorem Drawn0.step {w w' : World} (h : Drawn0 w w') (n : Nat) : Drawn0 w (w'.drewN n) := by
 obtain ⟨m, rfl⟩ := h
 exact ⟨⟨m + n, World.drewN_drewN ..⟩⟩
theorem Drawn0.grown {w w' : World} (h : Drawn0 w w') : Grown w w' := by
 obtain ⟨n, rfl⟩ := h
 induction n with
 | zero => exact Grown.refl _
 | succ n ih => rw [← World.drew_drewN]; exact Grown.drew ih
theorem Drawn0.below {w w' : World} (h : Drawn0 w w') : Below w.heap.size w w' := by
 obtain ⟨n, rfl⟩ := h
 induction n with
 | zero => exact Below.refl _ _
 | succ n ih => rw [← World.drew_drewN]; exact ih.drew
def rd (xs : List Int) (i : Int) : Int := xs.getD i.toNat 0
def bt (s : ByteArray) (i : Int) : Int := if h : i.toNat < s.size then ((s[i.toNat]'h).toNat : Int) else 0
theorem bt_at (s : ByteArray) (i : Int) : ∀ h : i.toNat < s.size, ((s[i.toNat]'h).toNat : Int) = bt s i := fun h => by simp [bt, h]
theorem below_alloc {w W : World} (h : Below w.heap.size w W) (o : Obj) : Below w.heap.size w (W.alloc o) := h.alloc h.size o
theorem below_drew {B : Nat} {w W : World} (h : Below B w W) : Below B w W.drew := ⟨h.os, h.tape, h.output, h.size, h.block⟩
theorem pw_below_drewN {B : Nat} {w W : World} (h : Below B w W) (n : Nat) : Below B w (W.drewN n) := ⟨h.os, h.tape, h.output, h.size, h.block⟩
theorem below_then {B : Nat} {w w1 w2 : World} (h : Below B w w1) (hB : B ≤ w1.heap.size) (k : Below w1.heap.size w1 w2) : Below B w w2 :=
 h.trans ⟨k.os, k.tape, k.output, k.size, fun i hi => k.block i (Nat.lt_of_lt_of_le hi hB)⟩
theorem grown_of_below {w w1 : World} (h : Below w.heap.size w w1) (row : Option Nat) : w.grownBy w1 row := ⟨h.os, h.tape, h.output, h.size, fun i hi _ => h.block i hi⟩
theorem pw_cell_below {w w1 : World} (h : Below w.heap.size w w1) {a : Addr} {v : Value} (hc : w.cell? a = some v) : w1.cell? a = some v := (h.cell (World.block_lt_of_cell? w a hc)).trans hc
theorem add_plain (g j : Nat) : (⟨g, 0, none⟩ : Addr).add j = ⟨g, j, none⟩ := by unfold Addr.add; split <;> simp_all
def ReadsInt (w : World) (k : IntKind) (A : Option Addr) (n : Nat) (xs : List Int) : Prop :=
 xs.length = n ∧ n ≤ 9223372036854775807 ∧ (0 < n → ∃ ad, A = some ad ∧ ∀ j, j < n → w.cell? (ad.add j) = some (.int k (xs.getD j 0)))
theorem ReadsInt.at_ {w : World} {k : IntKind} {A : Option Addr} {n : Nat} {xs : List Int} (h : ReadsInt w k A n xs) (i : Int) (h0 : 0 ≤ i) (h1 : i < n) : ∃ ad, A = some ad ∧ w.cell? (ad.add i.toNat) = some (.int k (rd xs i)) := by
 obtain ⟨ad, e, hc⟩ := h.2.2 (by omega)
 exact ⟨ad, e, hc _ (by omega)⟩
theorem ReadsInt.below {w w1 : World} {k : IntKind} {A : Option Addr} {n : Nat} {xs : List Int} (h : ReadsInt w k A n xs) (hb : Below w.heap.size w w1) : ReadsInt w1 k A n xs :=
 ⟨h.1, h.2.1, fun hn => by
  obtain ⟨ad, e, hc⟩ := h.2.2 hn
  exact ⟨ad, e, fun j hj => pw_cell_below hb (hc j hj)⟩⟩
theorem own_nil (W : World) (base : Nat) (e : TypeId) (size : Nat) : W.ownsRow base e size (.slice none 0 0) 0 [] := ⟨by simp, .inl ⟨rfl, rfl⟩⟩
theorem own_base {w : World} {base : Nat} {e : TypeId} {size n : Nat} {v : Value} {xs : List Value} (h : w.ownsRow base e size v n xs) (k : Nat) (hk : v.ownBlock = some k) : base ≤ k := by
 rcases h.2 with ⟨rfl, _⟩ | ⟨g, cap, cur, rfl, hb, _⟩
 ·simp [Value.ownBlock] at hk
 ·have : g = k := by simpa [Value.ownBlock] using hk
  omega
theorem own_lt {w : World} {base : Nat} {e : TypeId} {size n : Nat} {v : Value} {xs : List Value} (h : w.ownsRow base e size v n xs) (k : Nat) (hk : v.ownBlock = some k) : k < w.heap.size := by
 rcases h.2 with ⟨rfl, _⟩ | ⟨g, cap, cur, rfl, hb, hh, _⟩
 ·simp [Value.ownBlock] at hk
 ·have : g = k := by simpa [Value.ownBlock] using hk
  subst this
  exact (Array.getElem?_eq_some_iff.1 hh).1
theorem pw_own_below {w w1 : World} {base : Nat} {e : TypeId} {size n : Nat} {v : Value} {xs : List Value} (h : w.ownsRow base e size v n xs) (hb : Below w.heap.size w w1) : w1.ownsRow base e size v n xs :=
 h.kept (grown_of_below hb none) (by cases v.ownBlock <;> simp)
section
variable {P : Program} {ops : Array Oper} {rest : List Oper} {o : Oper} {a : Act} {Q : Exit → Act → World → Prop}
end
section
variable {P : Program}
end
section
variable {P : Program} {ops : Array Oper} {rest : List Oper} {o : Oper} {a : Act} {Q : Exit → Act → World → Prop}
end
theorem ReadsInt.take_ {w : World} {k : IntKind} {A : Option Addr} {n : Nat} {xs : List Int} (h : ReadsInt w k A n xs) (i : Nat) (hi : i ≤ n) : ReadsInt w k A i (xs.take i) := by
 refine ⟨by rw [List.length_take, h.1]; omega, by have := h.2.1; omega, fun hp => ?_⟩
 obtain ⟨ad, e, hc⟩ := h.2.2 (by omega)
 refine ⟨ad, e, fun j hj => ?_⟩
 rw [hc j (by omega)]
 simp [List.getD_eq_getElem?_getD, hj]
def LeO {α : Type} (a b : Option α) : Prop := ∀ r, a = some r → b = some r
theorem LeO.refl {α : Type} (a : Option α) : LeO a a := fun _ h => h
theorem LeO.none {α : Type} (b : Option α) : LeO Option.none b := fun _ h => by cases h
theorem LeO.trans {α : Type} {a b c : Option α} (h : LeO a b) (k : LeO b c) : LeO a c := fun r hr => k r (h r hr)
theorem LeO.ite {α : Type} {c : Prop} [Decidable c] {a a' b b' : Option α} (h : LeO a a') (k : LeO b b') : LeO (if c then a else b) (if c then a' else b') := by
 split
 ·exact h
 ·exact k
theorem LeO.bind {α β : Type} {a a' : Option α} {f f' : α → Option β} (h : LeO a a') (k : ∀ x, LeO (f x) (f' x)) : LeO (a.bind f) (a'.bind f') := by
 intro r hr
 obtain ⟨x, hx, hf⟩ := Option.bind_eq_some_iff.1 hr
 exact Option.bind_eq_some_iff.2 ⟨x, h x hx, k x r hf⟩
theorem LeO.map {α β : Type} {a a' : Option α} (f : α → β) (h : LeO a a') : LeO (a.map f) (a'.map f) := by
 intro r hr
 obtain ⟨x, hx, hf⟩ := Option.map_eq_some_iff.1 hr
 exact Option.map_eq_some_iff.2 ⟨x, h x hx, hf⟩
theorem more_rounds {α : Type} {g : Nat → Option α} (h : ∀ k, LeO (g k) (g (k + 1))) (k : Nat) : ∀ j, LeO (g k) (g (k + j))
 | 0 => LeO.refl _
 | j + 1 => (more_rounds h k j).trans (h (k + j))
theorem at_rounds {α : Type} {g : Nat → Option α} (h : ∀ k, LeO (g k) (g (k + 1))) {k k' : Nat} (hk : k ≤ k') {r : α} (hr : g k = some r) : g k' = some r := by
 have := more_rounds h k (k' - k) r hr
 rwa [Nat.add_sub_cancel' hk] at this
def Reps {α : Type} (R : α → List Value → Prop) (size : Nat) (ps : List α) (cs : List Value) : Prop :=
 cs.length = ps.length * size ∧ ∀ j p, ps[j]? = some p → R p ((cs.drop (j * size)).take size)
theorem Reps.none {α : Type} (R : α → List Value → Prop) (size : Nat) : Reps R size [] [] := ⟨by simp, fun j p h => by simp at h⟩
theorem Reps.snoc {α : Type} {R : α → List Value → Prop} {size : Nat} {ps : List α} {cs c : List Value} {p : α} (h : Reps R size ps cs) (hp : R p c) (hc : c.length = size) : Reps R size (ps ++ [p]) (cs ++ c) := by
 refine ⟨by rw [List.length_append, h.1, hc, List.length_append, List.length_singleton, Nat.add_mul, Nat.one_mul], fun j q hq => ?_⟩
 rcases Nat.lt_or_ge j ps.length with hj | hj
 ·rw [List.getElem?_append_left hj] at hq
  have h1 : j * size + size ≤ cs.length := by rw [h.1, ← Nat.succ_mul]; exact Nat.mul_le_mul_right _ hj
  have h2 := h.2 j q hq
  rw [List.drop_append_of_le_length (by omega), List.take_append_of_le_length (by rw [List.length_drop]; omega)]
  exact h2
 ·have hj' : j = ps.length := by
   have := (List.getElem?_eq_some_iff.1 hq).1
   rw [List.length_append, List.length_singleton] at this
   omega
  subst hj'
  have hq' : p = q := by simpa using hq
  subst hq'
  rw [← h.1, List.drop_left, ← hc, List.take_length]
  exact hp
theorem Reps.imp_ {α : Type} {R R' : α → List Value → Prop} {size : Nat} {ps : List α} {cs : List Value} (h : Reps R size ps cs) (hR : ∀ p c, R p c → R' p c) : Reps R' size ps cs := ⟨h.1, fun j p hj => hR _ _ (h.2 j p hj)⟩
def ReadsRow {α : Type} (R : α → List Value → Prop) (size : Nat) (w : World) (A : Option Addr) (n : Nat) (ps : List α) : Prop :=
 ps.length = n ∧ n ≤ 9223372036854775807 ∧ (0 < n → ∃ ad, A = some ad ∧ ∀ j p, ps[j]? = some p → ∃ c, c.length = size ∧ R p c ∧ ∀ i u, c[i]? = some u → w.cell? (ad.add (j * size + i)) = some u)
theorem ReadsRow.get_ {α : Type} {R : α → List Value → Prop} {size : Nat} {w : World} {A : Option Addr} {n : Nat} {ps : List α} (h : ReadsRow R size w A n ps) (d : α) (i : Int) (h0 : 0 ≤ i) (h1 : i < n) :
  ∃ ad c, A = some ad ∧ c.length = size ∧ R (ps.getD i.toNat d) c ∧ ∀ j u, c[j]? = some u → w.cell? (ad.add (i.toNat * size + j)) = some u := by
 obtain ⟨ad, e, hc⟩ := h.2.2 (by omega)
 have hl : i.toNat < ps.length := by have := h.1; omega
 obtain ⟨c, hs, hr, hcell⟩ := hc i.toNat _ (List.getElem?_eq_getElem hl)
 refine ⟨ad, c, e, hs, ?_, hcell⟩
 rw [List.getD_eq_getElem?_getD, List.getElem?_eq_getElem hl]
 exact hr
theorem ReadsRow.imp_ {α : Type} {R R' : α → List Value → Prop} {size : Nat} {w w1 : World} {A : Option Addr} {n : Nat} {ps : List α} (h : ReadsRow R size w A n ps) (hb : Below w.heap.size w w1) (hR : ∀ p c, R p c → R' p c) : ReadsRow R' size w1 A n ps :=
 ⟨h.1, h.2.1, fun hn => by
  obtain ⟨ad, e, hc⟩ := h.2.2 hn
  refine ⟨ad, e, fun j p hj => ?_⟩
  obtain ⟨c, hs, hr, hcell⟩ := hc j p hj
  exact ⟨c, hs, hR _ _ hr, fun i u hu => pw_cell_below hb (hcell i u hu)⟩⟩
theorem own_reads_row {α : Type} {R : α → List Value → Prop} {w : World} {base n size : Nat} {e : TypeId} {v : Value} {ps : List α} {cs : List Value} (h : w.ownsRow base e size v n cs) (hR : Reps R size ps cs) (hn : ps.length = n) :
  ∃ A c, v = .slice A n c ∧ ReadsRow R size w A n ps := by
 rcases Nat.eq_zero_or_pos n with h0 | h0
 ·rcases h.2 with ⟨rfl, rfl⟩ | ⟨g, cap, cur, rfl, _⟩
  ·exact ⟨none, 0, rfl, hn, by omega, fun hp => absurd hp (by omega)⟩
  ·exact ⟨_, cap, rfl, hn, by omega, fun hp => absurd hp (by omega)⟩
 ·obtain ⟨g, cap, rfl, _, _⟩ := h.form h0
  have hm : n ≤ 9223372036854775807 := by
   rcases h.2 with ⟨_, h1⟩ | ⟨g', cap', cur, he, _, _, h1, h2, _⟩
   ·omega
   ·simp only [maxLen] at h2
    omega
  refine ⟨_, cap, rfl, hn, hm, fun _ => ⟨_, rfl, fun j p hj => ⟨(cs.drop (j * size)).take size, ?_, hR.2 j p hj, fun i u hu => ?_⟩⟩⟩
  ·have hjl := (List.getElem?_eq_some_iff.1 hj).1
   have h1 : j * size + size ≤ cs.length := by rw [hR.1, ← Nat.succ_mul]; exact Nat.mul_le_mul_right _ hjl
   rw [List.length_take, List.length_drop]
   omega
  ·refine h.cells (g := g) rfl _ u ?_
   rw [List.getElem?_take] at hu
   split at hu
   ·rw [List.getElem?_drop] at hu
    exact hu
   ·cases hu
theorem add_field (ad : Addr) (m j : Nat) (hj : 0 < j) : ad.add (m + j) = ⟨(ad.add m).block, (ad.add m).off + j, none⟩ := by
 unfold Addr.add
 by_cases hm : m = 0
 ·subst hm
  simp [Nat.ne_of_gt hj]
 ·simp [hm, Nat.add_assoc]
section
variable {P : Program} {ops : Array Oper} {rest : List Oper} {o : Oper} {a : Act} {Q : Exit → Act → World → Prop}
theorem print_append_cells {w0 W : World} (base : Nat) (hgd : o.guard = none) (s x : Operand) (t e : TypeId) (z : Value) (size bytes : Nat)
  (ho : o.op = .call { callee := .builtin .append, args := #[s, x], argTypes := #[t, t] })
  (ht : P.underlying t = some (.slice e)) (hinfo : (P.info? e).map (fun i => (i.zero, i.size, i.bytes)) = some (some z, size, bytes)) (hz : z.cells.size = size) (hs0 : 0 < size) (hb0 : 0 < bytes)
  (v : Value) (n : Nat) (xs ys : List Value) (hs : a.eval s = v) (hx : a.eval x = .slice (some ⟨W.heap.size, 0, none⟩) 1 1) (hys : ys.length = size) (h1 : ∀ u ∈ ys, u.oneCell' = true)
  (HO : W.ownsRow base e size v n xs) (HB : Below base w0 W) (hbase : base ≤ W.heap.size) (hl : (n + 1) * bytes ≤ 140737488355328)
  (h : ∀ v1 w1, w1.ownsRow base e size v1 (n + 1) (xs ++ ys) → Below base w0 w1 → W.grownBy w1 v.ownBlock → (v1.ownBlock = v.ownBlock ∨ ∃ b, v1.ownBlock = some b ∧ W.heap.size ≤ b) → wpList P ops Q rest (a.put o.dst v1) w1) :
  wpList P ops Q (o :: rest) a (W.alloc (.cells ys.toArray e)) := by
 obtain ⟨i0, hi, hzz⟩ := Option.map_eq_some_iff.1 hinfo
 simp only [Prod.mk.injEq] at hzz
 obtain ⟨hz0, hz1, hz2⟩ := hzz
 have hlen : n + 1 ≤ 140737488355328 := Nat.le_trans (Nat.le_mul_of_pos_right _ hb0) hl
 refine wpList_append_own_at (W.alloc (.cells ys.toArray e)) hgd s x t ho base e i0 z size bytes ht hi hz0 hz1 hz2 hz hs0 v n xs hs (HO.alloc _) ⟨W.heap.size, 0, none⟩ 1 1 ys hx (by rw [hys]; simp)
  (by simpa using World.news_of_block (cs := ys.toArray) (t := e) (fr := (0, 0)) (heap_alloc_new W (.cells ys.toArray e))) h1 (by simp only [maxLen]; omega) hl (by simp; omega) ?_
 intro v1 w1 hown hg _ hat
 refine h v1 w1 hown ((HB.alloc hbase _).grown hg (by simp; omega) (own_base HO)) (World.grownBy.trans (World.grownBy_alloc W _ _) hg) ?_
 rcases hat with hat | hat
 ·exact .inl hat
 ·exact .inr ⟨_, hat, by simp⟩
end
theorem own_ne {w : World} {base : Nat} {e t : TypeId} {size n g : Nat} {v : Value} {xs : List Value} {cs : Array Value} (h : w.ownsRow base e size v n xs) (hg : w.heap[g]? = some (.cells cs t (0, 0))) (hne : e ≠ t) : some g ≠ v.ownBlock := by
 rcases h.2 with ⟨rfl, _⟩ | ⟨g', cap, cur, rfl, _, hh, _⟩
 ·simp [Value.ownBlock]
 ·intro he
  have : g = g' := by simpa [Value.ownBlock] using he
  subst this
  rw [hg] at hh
  injection hh with hh
  injection hh with _ ht
  exact hne ht.symm
theorem blk_set {w : World} {g : Nat} {t : TypeId} {cs : Array Value} (h : w.heap[g]? = some (.cells cs t (0, 0))) (i : Nat) (u : Value) : (w.setCell ⟨g, i, none⟩ u).heap[g]? = some (.cells (cs.setIfInBounds i u) t (0, 0)) := by
 simp [World.setCell, Array.getElem?_modify, h]
theorem blk_far {w : World} {g : Nat} {t : TypeId} {cs : Array Value} (h : w.heap[g]? = some (.cells cs t (0, 0))) {p : Addr} (hp : g ≠ p.block) (u : Value) : (w.setCell p u).heap[g]? = some (.cells cs t (0, 0)) := (Below.heap_setCell w p u g hp).trans h
theorem blk_lt {w : World} {g : Nat} {o : Obj} (h : w.heap[g]? = some o) : g < w.heap.size := (Array.getElem?_eq_some_iff.1 h).1
theorem blk_cell {w : World} {g : Nat} {t : TypeId} {cs : Array Value} (h : w.heap[g]? = some (.cells cs t (0, 0))) (i : Nat) : w.cell? ⟨g, i, none⟩ = cs[i]? := cell_of_row w g i cs t (0, 0) h
theorem blk_frozen {w : World} {g : Nat} {t : TypeId} {cs : Array Value} (h : w.heap[g]? = some (.cells cs t (0, 0))) (i : Nat) : w.frozen? ⟨g, i, none⟩ = false := by simp [World.frozen?, h]
theorem blk_grown {w w1 : World} {g : Nat} {o : Obj} {row : Option Nat} (h : w.heap[g]? = some o) (hg : w.grownBy w1 row) (hne : some g ≠ row) : w1.heap[g]? = some o := (hg.block g (blk_lt h) hne).trans h
def KeepBut (w w' : World) (g : Nat) (row : Option Nat) : Prop := w.heap.size ≤ w'.heap.size ∧ ∀ i, i < w.heap.size → i ≠ g → some i ≠ row → w'.heap[i]? = w.heap[i]?
theorem KeepBut.refl (w : World) (g : Nat) (row : Option Nat) : KeepBut w w g row := ⟨Nat.le_refl _, fun _ _ _ _ => rfl⟩
theorem KeepBut.of_below {w w1 : World} (h : Below w.heap.size w w1) (g : Nat) (row : Option Nat) : KeepBut w w1 g row := ⟨h.size, fun i hi _ _ => h.block i hi⟩
theorem KeepBut.trans {w w1 w2 : World} {g : Nat} {row row1 : Option Nat} (h : KeepBut w w1 g row) (k : KeepBut w1 w2 g row1) (hr : row1 = row ∨ ∃ b, row1 = some b ∧ w.heap.size ≤ b) : KeepBut w w2 g row :=
 ⟨Nat.le_trans h.1 k.1, fun i hi hg hn => by
  refine (k.2 i (Nat.lt_of_lt_of_le hi h.1) hg ?_).trans (h.2 i hi hg hn)
  rcases hr with rfl | ⟨b, rfl, hb⟩
  ·exact hn
  ·intro e
   injection e with e
   omega⟩
theorem KeepBut.blk {w w1 : World} {g g' : Nat} {row : Option Nat} {o : Obj} (h : KeepBut w w1 g row) (hb : w.heap[g']? = some o) (hg : g' ≠ g) (hr : some g' ≠ row) : w1.heap[g']? = some o := (h.2 g' (blk_lt hb) hg hr).trans hb
theorem KeepBut.own {w w1 : World} {g : Nat} {row : Option Nat} {base : Nat} {e : TypeId} {size n : Nat} {v : Value} {xs : List Value} (h : KeepBut w w1 g row) (ho : w.ownsRow base e size v n xs) (hg : v.ownBlock ≠ some g) (hr : v.ownBlock = none ∨ v.ownBlock ≠ row) : w1.ownsRow base e size v n xs := by
 obtain ⟨h1, h2⟩ := ho
 refine ⟨h1, ?_⟩
 rcases h2 with h2 | ⟨b, cap, cur, rfl, hb, hh, r⟩
 ·exact .inl h2
 ·refine .inr ⟨b, cap, cur, rfl, hb, h.blk hh ?_ ?_, r⟩
  ·intro e
   exact hg (by rw [← e]; rfl)
  ·rcases hr with hr | hr
   ·simp [Value.ownBlock] at hr
   ·exact hr
def Ev {α : Type} (g : Nat → Option α) (r : α) : Prop := ∃ K, ∀ k, K ≤ k → g k = some r
theorem Ev.of {α : Type} {g : Nat → Option α} {r : α} (hg : ∀ k, LeO (g k) (g (k + 1))) {k : Nat} (h : g k = some r) : Ev g r := ⟨k, fun _ hk => at_rounds hg hk h⟩
theorem Ev.now {α : Type} (r : α) : Ev (fun _ => some r) r := ⟨0, fun _ _ => rfl⟩
theorem Ev.rounds {α : Type} {g : Nat → Option α} {r : α} (h : Ev g r) : ∃ k, g k = some r := by
 obtain ⟨K, h⟩ := h
 exact ⟨K, h K (Nat.le_refl _)⟩
theorem Ev.bind {α β : Type} {g : Nat → Option α} {f : Nat → α → Option β} {a : α} {r : β} (h : Ev g a) (k : Ev (fun n => f n a) r) : Ev (fun n => (g n).bind (f n)) r := by
 obtain ⟨K, h⟩ := h
 obtain ⟨K', k⟩ := k
 refine ⟨max K K', fun n hn => ?_⟩
 have h1 := h n (by omega)
 have h2 := k n (by omega)
 simp only [h1, Option.bind_some]
 exact h2
theorem Ev.step {α : Type} {g f : Nat → Option α} {r : α} (h : ∀ k, g (k + 1) = f k) (k : Ev f r) : Ev g r := by
 obtain ⟨K, k⟩ := k
 refine ⟨K + 1, fun n hn => ?_⟩
 obtain ⟨m, rfl⟩ : ∃ m, n = m + 1 := ⟨n - 1, by omega⟩
 rw [h]
 exact k m (by omega)
theorem Ev.congr {α : Type} {g f : Nat → Option α} {r : α} (h : ∀ k, g k = f k) (k : Ev f r) : Ev g r := by
 obtain ⟨K, k⟩ := k
 exact ⟨K, fun n hn => (h n).trans (k n hn)⟩
section
variable {P : Program} {ops : Array Oper} {o : Oper} {a : Act} {Q : Exit → Act → World → Prop} {K : Act → World → Prop}
theorem step_append_cells {w0 W : World} (base : Nat) (hw : Region.wanted o (yielded ops a.tmps) = true) (s x : Operand) (t e : TypeId) (z : Value) (size bytes : Nat)
  (ho : o.op = .call { callee := .builtin .append, args := #[s, x], argTypes := #[t, t] })
  (ht : P.underlying t = some (.slice e)) (hinfo : (P.info? e).map (fun i => (i.zero, i.size, i.bytes)) = some (some z, size, bytes)) (hz : z.cells.size = size) (hs0 : 0 < size) (hb0 : 0 < bytes)
  (v : Value) (n : Nat) (xs ys : List Value) (hs : a.eval s = v) (hx : a.eval x = .slice (some ⟨W.heap.size, 0, none⟩) 1 1) (hys : ys.length = size) (h1 : ∀ u ∈ ys, u.oneCell' = true)
  (HO : W.ownsRow base e size v n xs) (HB : Below base w0 W) (hbase : base ≤ W.heap.size) (hl : (n + 1) * bytes ≤ 140737488355328)
  (h : ∀ v1 w1, w1.ownsRow base e size v1 (n + 1) (xs ++ ys) → Below base w0 w1 → W.grownBy w1 v.ownBlock → (v1.ownBlock = v.ownBlock ∨ ∃ b, v1.ownBlock = some b ∧ W.heap.size ≤ b) → K (a.put o.dst v1) w1) :
  if Region.wanted o (yielded ops a.tmps) = true then Oper.wp P o a (W.alloc (.cells ys.toArray e)) K Q else K (a.put o.dst undef) (W.alloc (.cells ys.toArray e)) := by
 obtain ⟨i0, hi, hzz⟩ := Option.map_eq_some_iff.1 hinfo
 simp only [Prod.mk.injEq] at hzz
 obtain ⟨hz0, hz1, hz2⟩ := hzz
 have hlen : n + 1 ≤ 140737488355328 := Nat.le_trans (Nat.le_mul_of_pos_right _ hb0) hl
 rw [if_pos hw]
 obtain ⟨v1, w1, hr, hown, hg, _, hat⟩ := run_append_own_at (P := P) (W.alloc (.cells ys.toArray e)) base t o.type e i0 z size bytes ht hi hz0 hz1 hz2 hz hs0 v n xs (HO.alloc _) ⟨W.heap.size, 0, none⟩ 1 1 ys (by rw [hys]; simp)
  (by simpa using World.news_of_block (cs := ys.toArray) (t := e) (fr := (0, 0)) (heap_alloc_new W (.cells ys.toArray e))) h1 (by simp only [maxLen]; omega) hl (by simp; omega)
 unfold Oper.wp execOp
 simp only [ho, resolve, invoke, builtin, Sem.run_bind, Sem.run_pure, Result.andThen_ok, List.map_toArray, List.map_cons, List.map_nil, hs, hx, hr]
 refine h v1 w1 hown ((HB.alloc hbase _).grown hg (by simp; omega) (own_base HO)) (World.grownBy.trans (World.grownBy_alloc W _ _) hg) ?_
 rcases hat with hat | hat
 ·exact .inl hat
 ·exact .inr ⟨_, hat, by simp⟩
end
theorem own_weaken {w : World} {base base' : Nat} {e : TypeId} {size n : Nat} {v : Value} {xs : List Value} (h : w.ownsRow base e size v n xs) (hb : base' ≤ base) : w.ownsRow base' e size v n xs := by
 obtain ⟨h1, h2⟩ := h
 refine ⟨h1, ?_⟩
 rcases h2 with h2 | ⟨g, cap, cur, rfl, hg, r⟩
 ·exact .inl h2
 ·exact .inr ⟨g, cap, cur, rfl, Nat.le_trans hb hg, r⟩
section
variable {α : Type} {enc : α → Value} {d : α}
def encs (enc : α → Value) (xs : List α) : List Value := xs.map enc
def rdOf (d : α) (xs : List α) (i : Int) : α := xs.getD i.toNat d
theorem encs_length (xs : List α) : (encs enc xs).length = xs.length := by simp [encs]
theorem encs_get (xs : List α) (j : Nat) (h : j < xs.length) : (encs enc xs)[j]? = some (enc (xs.getD j d)) := by
 simp [encs, List.getElem?_eq_getElem h, List.getD_eq_getElem?_getD]
def ReadsOf (enc : α → Value) (d : α) (w : World) (A : Option Addr) (n : Nat) (xs : List α) : Prop :=
 xs.length = n ∧ n ≤ 9223372036854775807 ∧ (0 < n → ∃ ad, A = some ad ∧ ∀ j, j < n → w.cell? (ad.add j) = some (enc (xs.getD j d)))
theorem ReadsOf.at_ {w : World} {A : Option Addr} {n : Nat} {xs : List α} (h : ReadsOf enc d w A n xs) (i : Int) (h0 : 0 ≤ i) (h1 : i < n) : ∃ ad, A = some ad ∧ w.cell? (ad.add i.toNat) = some (enc (rdOf d xs i)) := by
 obtain ⟨ad, e, hc⟩ := h.2.2 (by omega)
 exact ⟨ad, e, hc _ (by omega)⟩
theorem ReadsOf.below {w w1 : World} {A : Option Addr} {n : Nat} {xs : List α} (h : ReadsOf enc d w A n xs) (hb : Below w.heap.size w w1) : ReadsOf enc d w1 A n xs :=
 ⟨h.1, h.2.1, fun hn => by
  obtain ⟨ad, e, hc⟩ := h.2.2 hn
  exact ⟨ad, e, fun j hj => pw_cell_below hb (hc j hj)⟩⟩
theorem ReadsOf.take_ {w : World} {A : Option Addr} {n : Nat} {xs : List α} (h : ReadsOf enc d w A n xs) (i : Nat) (hi : i ≤ n) : ReadsOf enc d w A i (xs.take i) := by
 refine ⟨by rw [List.length_take, h.1]; omega, by have := h.2.1; omega, fun hp => ?_⟩
 obtain ⟨ad, e, hc⟩ := h.2.2 (by omega)
 refine ⟨ad, e, fun j hj => ?_⟩
 rw [hc j (by omega)]
 simp [List.getD_eq_getElem?_getD, hj]
theorem own_at_of {W : World} {base g n cap : Nat} {e : TypeId} {xs : List α} (h : W.ownsRow base e 1 (.slice (some ⟨g, 0, none⟩) n cap) n (encs enc xs)) (i : Int) (h0 : 0 ≤ i) (h1 : i < n) :
  W.cell? ⟨g, i.toNat, none⟩ = some (enc (rdOf d xs i)) ∧ W.frozen? ⟨g, i.toNat, none⟩ = false := by
 have hl : xs.length = n := by have := h.1; simp [encs] at this; exact this
 constructor
 ·have hc := h.cells (g := g) rfl i.toNat _ (encs_get (d := d) xs i.toNat (by omega))
  rwa [add_plain] at hc
 ·rcases h.2 with ⟨h', _⟩ | ⟨g', cap', cur, h', _, hh, _⟩
  ·cases h'
  ·have : g = g' := by injection h' with h'; injection h' with h'; injection h' with h'
   subst this
   simp [World.frozen?, hh]
theorem own_store_of {W : World} {base g n cap : Nat} {e : TypeId} {xs : List α} (h : W.ownsRow base e 1 (.slice (some ⟨g, 0, none⟩) n cap) n (encs enc xs)) (i : Int) (x : α) :
  (W.setCell ⟨g, i.toNat, none⟩ (enc x)).ownsRow base e 1 (.slice (some ⟨g, 0, none⟩) n cap) n (encs enc (xs.set i.toNat x)) ∧ W.grownBy (W.setCell ⟨g, i.toNat, none⟩ (enc x)) (some g) := by
 have hs := h.stored i.toNat (enc x)
 have he : (encs enc xs).set i.toNat (enc x) = encs enc (xs.set i.toNat x) := by simp [encs, List.map_set]
 rwa [he] at hs
end
section
variable {α : Type} {P : Program} {ops : Array Oper} {rest : List Oper} {o : Oper} {a : Act} {Q : Exit → Act → World → Prop}
end
theorem blk_alloc {w : World} {g : Nat} {o : Obj} (h : w.heap[g]? = some o) (o' : Obj) : (w.alloc o').heap[g]? = some o := (Below.heap_alloc w o' g (blk_lt h)).trans h
theorem blk_drew {w : World} {g : Nat} {o : Obj} (h : w.heap[g]? = some o) : w.drew.heap[g]? = some o := h
theorem blk_below {w w1 : World} {g : Nat} {o : Obj} (h : w.heap[g]? = some o) (hb : Below w.heap.size w w1) : w1.heap[g]? = some o := (hb.block g (blk_lt h)).trans h
theorem blk_new (w : World) (o : Obj) : (w.alloc o).heap[w.heap.size]? = some o := heap_alloc_new w o
section
variable {P : Program}
theorem results_ct {fn : Func} {p u : Tmp} {ty : TypeId} (h : fn.results = #[.cell p ty, .tmp u]) (tmps : Array Value) (w : World) (g : Nat) (t : TypeId) (cs : Array Value) (fr : Nat × Nat) (d : TypeDesc)
  (hp : tmps.getD p undef = .pointer (some ⟨g, 0, none⟩)) (hg : w.heap[g]? = some (.cells cs t fr))
  (hu : P.underlying ty = some d) (hd : (match d with | .struct _ | .array _ _ => true | _ => false) = true) (hi : (P.info? ty).map (·.size) = some cs.size) :
  (results fn tmps).run P w = .ok (.tuple #[.agg cs, tmps.getD u undef]) w := by
 have hp' : tmps[p]?.getD undef = .pointer (some ⟨g, 0, none⟩) := by simpa using hp
 simp [results, h, hp', asAddr, run_loadVar_row w g t ty cs fr d hg hu hd hi]
end
theorem own_le {w : World} {base n m c size : Nat} {e : TypeId} {A : Option Addr} {xs : List Value} (h : w.ownsRow base e size (.slice A m c) n xs) : m ≤ c := by
 rcases h.2 with ⟨he, _⟩ | ⟨g, cap, cur, he, _, _, hnc, _⟩
 ·injection he with _ h2 h3
  omega
 ·injection he with _ h2 h3
  omega
def OwnRow {α : Type} (R : α → List Value → Prop) (e : TypeId) (size : Nat) (w : World) (base : Nat) (v : Value) (ps : List α) : Prop :=
 ∃ inner, w.ownsRow base e size v ps.length inner ∧ Reps R size ps inner
section
variable {α : Type} {R R' : α → List Value → Prop} {e : TypeId} {size : Nat} {w w1 : World} {base : Nat} {v : Value} {ps : List α}
theorem OwnRow.none_ (R : α → List Value → Prop) (e : TypeId) (size : Nat) (w : World) (base : Nat) : OwnRow R e size w base (.slice none 0 0) [] := ⟨[], own_nil _ _ _ _, Reps.none _ _⟩
theorem OwnRow.imp_ (h : OwnRow R e size w base v ps) (hR : ∀ p c, R p c → R' p c) : OwnRow R' e size w base v ps := by
 obtain ⟨inner, ho, hr⟩ := h
 exact ⟨inner, ho, hr.imp_ hR⟩
theorem OwnRow.below (h : OwnRow R e size w base v ps) (hb : Below w.heap.size w w1) : OwnRow R e size w1 base v ps := by
 obtain ⟨inner, ho, hr⟩ := h
 exact ⟨inner, pw_own_below ho hb, hr⟩
theorem OwnRow.keep (h : OwnRow R e size w base v ps) {g : Nat} {t : TypeId} {cells : Array Value} (hb : w.heap[g]? = some (.cells cells t (0, 0))) (ht : e ≠ t) (hk : KeepBut w w1 g none) : OwnRow R e size w1 base v ps := by
 obtain ⟨inner, ho, hr⟩ := h
 exact ⟨inner, hk.own ho (Ne.symm (own_ne ho hb ht)) (by cases v.ownBlock <;> simp), hr⟩
theorem OwnRow.reads (h : OwnRow R e size w base v ps) : ∃ A c, v = .slice A ps.length c ∧ ps.length ≤ c ∧ ReadsRow R size w A ps.length ps := by
 obtain ⟨inner, ho, hr⟩ := h
 obtain ⟨A, c, rfl, hrow⟩ := own_reads_row ho hr rfl
 exact ⟨A, c, rfl, own_le ho, hrow⟩
theorem OwnRow.ne_block (h : OwnRow R e size w base v ps) {g : Nat} {t : TypeId} {cells : Array Value} (hb : w.heap[g]? = some (.cells cells t (0, 0))) (ht : e ≠ t) : some g ≠ v.ownBlock := by
 obtain ⟨inner, ho, hr⟩ := h
 exact own_ne ho hb ht
end
section
variable {P : Program} {ops : Array Oper} {rest : List Oper} {o : Oper} {a : Act} {Q : Exit → Act → World → Prop} {α : Type} {R : α → List Value → Prop}
theorem OwnRow.append {w0 W : World} (base : Nat) (hgd : o.guard = none) (s x : Operand) (t e : TypeId) (z : Value) (size bytes : Nat)
  (ho : o.op = .call { callee := .builtin .append, args := #[s, x], argTypes := #[t, t] })
  (ht : P.underlying t = some (.slice e)) (hinfo : (P.info? e).map (fun i => (i.zero, i.size, i.bytes)) = some (some z, size, bytes)) (hz : z.cells.size = size) (hs0 : 0 < size) (hb0 : 0 < bytes)
  (v : Value) (ps : List α) (p : α) (cs : List Value) (hs : a.eval s = v) (hx : a.eval x = .slice (some ⟨W.heap.size, 0, none⟩) 1 1) (hp : R p cs) (hcs : cs.length = size) (h1 : ∀ u ∈ cs, u.oneCell' = true)
  (HO : OwnRow R e size W base v ps) (HB : Below base w0 W) (hbase : base ≤ W.heap.size) (hl : (ps.length + 1) * bytes ≤ 140737488355328)
  (h : ∀ v1 w1, OwnRow R e size w1 base v1 (ps ++ [p]) → Below base w0 w1 → W.grownBy w1 v.ownBlock → (v1.ownBlock = v.ownBlock ∨ ∃ b, v1.ownBlock = some b ∧ W.heap.size ≤ b) → wpList P ops Q rest (a.put o.dst v1) w1) :
  wpList P ops Q (o :: rest) a (W.alloc (.cells cs.toArray e)) := by
 obtain ⟨inner, hown, hr⟩ := HO
 refine print_append_cells base hgd s x t e z size bytes ho ht hinfo hz hs0 hb0 v ps.length inner cs hs hx hcs h1 hown HB hbase hl ?_
 intro v1 w1 hown1 hb1 hg1 hat1
 exact h v1 w1 ⟨inner ++ cs, by rw [List.length_append, List.length_singleton]; exact hown1, hr.snoc hp hcs⟩ hb1 hg1 hat1
end
section
variable {P : Program} {ops : Array Oper} {o : Oper} {a : Act} {Q : Exit → Act → World → Prop} {K : Act → World → Prop} {α : Type} {R : α → List Value → Prop}
end
theorem ReadsRow.inner_ {α : Type} {R : α → List Value → Prop} {size : Nat} {w : World} {ad : Addr} {n : Nat} {ps : List α} (h : ReadsRow R size w (some ad) n ps) :
  ∃ inner, Reps R size ps inner ∧ ∀ j u, inner[j]? = some u → w.cell? (ad.add j) = some u := by
 have key : ∀ m, m ≤ ps.length → ∃ inner, Reps R size (ps.take m) inner ∧ ∀ j u, inner[j]? = some u → w.cell? (ad.add j) = some u := by
  intro m
  induction m with
  | zero => exact fun _ => ⟨[], Reps.none _ _, fun j u hu => by simp at hu⟩
  | succ m ih =>
   intro hm
   obtain ⟨inner, hr, hc⟩ := ih (by omega)
   obtain ⟨ad', he, hcell⟩ := h.2.2 (by have := h.1; omega)
   injection he with he
   subst he
   obtain ⟨c, hcl, hp, hcc⟩ := hcell m _ (List.getElem?_eq_getElem (show m < ps.length by omega))
   refine ⟨inner ++ c, ?_, fun j u hu => ?_⟩
   ·rw [List.take_succ_eq_append_getElem (show m < ps.length by omega)]
    exact hr.snoc hp hcl
   ·have hil : inner.length = m * size := by rw [hr.1, List.length_take, Nat.min_eq_left (by omega)]
    rcases Nat.lt_or_ge j inner.length with hj | hj
    ·rw [List.getElem?_append_left hj] at hu
     exact hc j u hu
    ·rw [List.getElem?_append_right hj] at hu
     have := hcc (j - inner.length) u hu
     rwa [hil, Nat.add_sub_cancel' (by omega)] at this
 obtain ⟨inner, hr, hc⟩ := key ps.length (Nat.le_refl _)
 rw [List.take_length] at hr
 exact ⟨inner, hr, hc⟩
section
variable {α : Type} {P : Program}
end
section
variable {P : Program} {ops : Array Oper} {rest : List Oper} {o : Oper} {a : Act} {Q : Exit → Act → World → Prop}
end
structure Kd (α : Type) where
 sz : Nat
 E : List Nat
 K : World → α → List Value → Prop
 M : World → Nat → (Nat → Prop) → α → List Value → Prop
 K_len : ∀ {w x cs}, K w x cs → cs.length = sz
 K_one : ∀ {w x cs}, K w x cs → ∀ u ∈ cs, u.oneCell' = true
 K_below : ∀ {w w1 : World} {x cs}, Below w.heap.size w w1 → K w x cs → K w1 x cs
 K_of_M : ∀ {w base ok x cs}, M w base ok x cs → K w x cs
 M_mono : ∀ {w base ok ok' x cs}, (∀ k, ok k → ok' k) → M w base ok x cs → M w base ok' x cs
 M_bound : ∀ {w : World} {base ok x cs}, M w base ok x cs → M w base (fun k => ok k ∧ base ≤ k ∧ k < w.heap.size ∧ ∃ q, q ∈ E ∧ ∃ cells, w.heap[k]? = some (.cells cells q (0, 0))) x cs
 M_move : ∀ {w w1 : World} {base ok x cs}, (∀ k, ok k → w1.heap[k]? = w.heap[k]?) → M w base ok x cs → M w1 base ok x cs
 M_lower : ∀ {w base base' ok x cs}, base' ≤ base → M w base ok x cs → M w base' ok x cs
theorem own_move {w w1 : World} {base : Nat} {e : TypeId} {size n : Nat} {v : Value} {xs : List Value} (h : w.ownsRow base e size v n xs) (hm : ∀ k, v.ownBlock = some k → w1.heap[k]? = w.heap[k]?) : w1.ownsRow base e size v n xs := by
 obtain ⟨h1, h2⟩ := h
 refine ⟨h1, ?_⟩
 rcases h2 with h2 | ⟨g, cap, cur, rfl, hg, hh, r⟩
 ·exact .inl h2
 ·exact .inr ⟨g, cap, cur, rfl, hg, (hm g (by simp [Value.ownBlock])).trans hh, r⟩
theorem own_typed {w : World} {base : Nat} {e : TypeId} {size n : Nat} {v : Value} {xs : List Value} (h : w.ownsRow base e size v n xs) (k : Nat) (hk : v.ownBlock = some k) : ∃ cells, w.heap[k]? = some (.cells cells e (0, 0)) := by
 rcases h.2 with ⟨rfl, _⟩ | ⟨g, cap, cur, rfl, hg, hh, r⟩
 ·simp [Value.ownBlock] at hk
 ·have : g = k := by simpa [Value.ownBlock] using hk
  subst this
  exact ⟨cur, hh⟩
namespace Kd
def C {α : Type} (d : Kd α) (w : World) (A : Option Addr) (n : Nat) (xs : List α) : Prop := ReadsRow (d.K w) d.sz w A n xs
def R {α : Type} (d : Kd α) (e : Nat) (w : World) (base : Nat) (ok : Nat → Prop) (v : Value) (xs : List α) : Prop :=
 (∀ k, v.ownBlock = some k → ok k) ∧ OwnRow (d.M w base (fun k => ok k ∧ some k ≠ v.ownBlock)) e d.sz w base v xs
section
variable {α : Type} {d : Kd α} {e : Nat} {w w1 : World} {base : Nat} {ok ok' : Nat → Prop} {v : Value} {xs : List α}
theorem C_below {A : Option Addr} {n : Nat} (h : d.C w A n xs) (hb : Below w.heap.size w w1) : d.C w1 A n xs := ReadsRow.imp_ h hb (fun _ _ hp => d.K_below hb hp)
theorem R_nil (d : Kd α) (e : Nat) (w : World) (base : Nat) (ok : Nat → Prop) : d.R e w base ok (.slice none 0 0) [] := ⟨fun k hk => by simp [Value.ownBlock] at hk, OwnRow.none_ _ _ _ _ _⟩
theorem R_mono (h : d.R e w base ok v xs) (hok : ∀ k, ok k → ok' k) : d.R e w base ok' v xs := ⟨fun k hk => hok k (h.1 k hk), h.2.imp_ (fun _ _ hp => d.M_mono (fun k hk => ⟨hok k hk.1, hk.2⟩) hp)⟩
theorem R_bound (h : d.R e w base ok v xs) : d.R e w base (fun k => ok k ∧ base ≤ k ∧ k < w.heap.size ∧ ∃ q, q ∈ e :: d.E ∧ ∃ cells, w.heap[k]? = some (.cells cells q (0, 0))) v xs := by
 obtain ⟨h0, inner, ho, hr⟩ := h
 refine ⟨fun k hk => ?_, inner, ho, hr.imp_ (fun _ _ hp => d.M_mono (fun k hk => ?_) (d.M_bound hp))⟩
 ·obtain ⟨cells, hc⟩ := own_typed ho k hk
  exact ⟨h0 k hk, own_base ho k hk, own_lt ho k hk, e, List.mem_cons_self, cells, hc⟩
 ·obtain ⟨⟨h1, h2⟩, h3, h4, q, hq, hc⟩ := hk
  exact ⟨⟨h1, h3, h4, q, List.mem_cons_of_mem _ hq, hc⟩, h2⟩
theorem R_move (h : d.R e w base ok v xs) (hm : ∀ k, ok k → w1.heap[k]? = w.heap[k]?) : d.R e w1 base ok v xs := by
 obtain ⟨h0, inner, ho, hr⟩ := h
 exact ⟨h0, inner, own_move ho (fun k hk => hm k (h0 k hk)), hr.imp_ (fun _ _ hp => d.M_move (fun k hk => hm k hk.1) hp)⟩
theorem R_lower {base' : Nat} (h : d.R e w base ok v xs) (hb : base' ≤ base) : d.R e w base' ok v xs := by
 obtain ⟨h0, inner, ho, hr⟩ := h
 exact ⟨h0, inner, own_weaken ho hb, hr.imp_ (fun _ _ hp => d.M_lower hb hp)⟩
theorem R_step (h : d.R e w base ok v xs) (hm : ∀ k, ok k → k < w.heap.size → w1.heap[k]? = w.heap[k]?) : d.R e w1 base ok v xs :=
 R_mono (R_move (R_bound h) (fun k hk => hm k hk.1 hk.2.2.1)) (fun _ hk => hk.1)
theorem M_step {x : α} {cs : List Value} (h : d.M w base ok x cs) (hm : ∀ k, ok k → k < w.heap.size → w1.heap[k]? = w.heap[k]?) : d.M w1 base ok x cs :=
 d.M_mono (fun _ hk => hk.1) (d.M_move (fun k hk => hm k hk.1 hk.2.2.1) (d.M_bound h))
theorem R_below (h : d.R e w base ok v xs) (hb : Below w.heap.size w w1) : d.R e w1 base ok v xs := R_step h (fun k _ hk => hb.block k hk)
theorem M_below {x : α} {cs : List Value} (h : d.M w base ok x cs) (hb : Below w.heap.size w w1) : d.M w1 base ok x cs := M_step h (fun k _ hk => hb.block k hk)
theorem R_grown (h : d.R e w base ok v xs) {row : Option Nat} (hg : w.grownBy w1 row) (hok : ∀ k, ok k → some k ≠ row) : d.R e w1 base ok v xs := R_step h (fun k ho hk => hg.block k hk (hok k ho))
theorem R_far (h : d.R e w base ok v xs) {p : Addr} (hok : ∀ k, ok k → k ≠ p.block) (u : Value) : d.R e (w.setCell p u) base ok v xs := R_step h (fun k ho _ => Below.heap_setCell w p u k (hok k ho))
theorem R_types (h : d.R e w base ok v xs) {g t : Nat} {cells : Array Value} (hb : w.heap[g]? = some (.cells cells t (0, 0))) (ht : ∀ q, q ∈ e :: d.E → q ≠ t) : d.R e w base (fun k => ok k ∧ k ≠ g) v xs :=
 R_mono (R_bound h) (fun k hk => ⟨hk.1, by
  obtain ⟨_, _, _, q, hq, cells', hc⟩ := hk
  rintro rfl
  rw [hc] at hb
  injection hb with hb
  injection hb with _ hb
  exact ht q hq hb⟩)
theorem R_reads (h : d.R e w base ok v xs) : ∃ A c, v = .slice A xs.length c ∧ xs.length ≤ c ∧ d.C w A xs.length xs := by
 obtain ⟨A, c, he, hl, hr⟩ := OwnRow.reads h.2
 exact ⟨A, c, he, hl, hr.imp_ (Below.refl _ _) (fun _ _ hp => d.K_of_M hp)⟩
theorem R_slice (h : d.R e w base ok v xs) : ∃ A c, v = .slice A xs.length c := by
 obtain ⟨A, c, he, _⟩ := R_reads h
 exact ⟨A, c, he⟩
theorem R_own (h : d.R e w base ok v xs) : ∃ inner, w.ownsRow base e d.sz v xs.length inner := by
 obtain ⟨_, inner, ho, _⟩ := h
 exact ⟨inner, ho⟩
theorem R_ne (h : d.R e w base ok v xs) {g t : Nat} {cells : Array Value} (hb : w.heap[g]? = some (.cells cells t (0, 0))) (ht : e ≠ t) : some g ≠ v.ownBlock := OwnRow.ne_block h.2 hb ht
end
def scalar {α : Type} (enc : α → Value) (h1 : ∀ x, (enc x).oneCell' = true) : Kd α where
 sz := 1
 E := []
 K := fun _ x cs => cs = [enc x]
 M := fun _ _ _ x cs => cs = [enc x]
 K_len := fun h => by rw [h]; rfl
 K_one := fun h u hu => by
  rw [h] at hu
  rw [List.mem_singleton.1 hu]
  exact h1 _
 K_below := fun _ h => h
 K_of_M := fun h => h
 M_mono := fun _ h => h
 M_bound := fun h => h
 M_move := fun _ h => h
 M_lower := fun _ h => h
def int (k : IntKind) : Kd Int := scalar (Value.int k) (fun _ => rfl)
def bool : Kd Bool := scalar Value.bool (fun _ => rfl)
def string : Kd ByteArray := scalar Value.string (fun _ => rfl)
def slice {α : Type} (e : Nat) (d : Kd α) : Kd (List α) where
 sz := 1
 E := e :: d.E
 K := fun w xs cs => ∃ A c, cs = [.slice A xs.length c] ∧ xs.length ≤ c ∧ d.C w A xs.length xs
 M := fun w base ok xs cs => ∃ v, cs = [v] ∧ d.R e w base ok v xs
 K_len := by
  rintro w x cs ⟨A, c, rfl, _⟩
  rfl
 K_one := by
  rintro w x cs ⟨A, c, rfl, _⟩ u hu
  rw [List.mem_singleton.1 hu]
  rfl
 K_below := by
  rintro w w1 x cs hb ⟨A, c, rfl, hl, hr⟩
  exact ⟨A, c, rfl, hl, C_below hr hb⟩
 K_of_M := by
  rintro w base ok x cs ⟨v, rfl, h⟩
  obtain ⟨A, c, rfl, hl, hr⟩ := R_reads h
  exact ⟨A, c, rfl, hl, hr⟩
 M_mono := by
  rintro w base ok ok' x cs hok ⟨v, rfl, h⟩
  exact ⟨v, rfl, R_mono h hok⟩
 M_bound := by
  rintro w base ok x cs ⟨v, rfl, h⟩
  exact ⟨v, rfl, R_bound h⟩
 M_move := by
  rintro w w1 base ok x cs hm ⟨v, rfl, h⟩
  exact ⟨v, rfl, R_move h hm⟩
 M_lower := by
  rintro w base base' ok x cs hb ⟨v, rfl, h⟩
  exact ⟨v, rfl, R_lower h hb⟩
def pair {α β : Type} (a : Kd α) (b : Kd β) : Kd (α × β) where
 sz := a.sz + b.sz
 E := a.E ++ b.E
 K := fun w x cs => ∃ c0 c1, cs = c0 ++ c1 ∧ a.K w x.1 c0 ∧ b.K w x.2 c1
 M := fun w base ok x cs => ∃ c0 c1, cs = c0 ++ c1 ∧ a.M w base ok x.1 c0 ∧ b.M w base ok x.2 c1
 K_len := by
  rintro w x cs ⟨c0, c1, rfl, h0, h1⟩
  rw [List.length_append, a.K_len h0, b.K_len h1]
 K_one := by
  rintro w x cs ⟨c0, c1, rfl, h0, h1⟩ u hu
  rcases List.mem_append.1 hu with hu | hu
  ·exact a.K_one h0 u hu
  ·exact b.K_one h1 u hu
 K_below := by
  rintro w w1 x cs hb ⟨c0, c1, rfl, h0, h1⟩
  exact ⟨c0, c1, rfl, a.K_below hb h0, b.K_below hb h1⟩
 K_of_M := by
  rintro w base ok x cs ⟨c0, c1, rfl, h0, h1⟩
  exact ⟨c0, c1, rfl, a.K_of_M h0, b.K_of_M h1⟩
 M_mono := by
  rintro w base ok ok' x cs hok ⟨c0, c1, rfl, h0, h1⟩
  exact ⟨c0, c1, rfl, a.M_mono hok h0, b.M_mono hok h1⟩
 M_bound := by
  rintro w base ok x cs ⟨c0, c1, rfl, h0, h1⟩
  refine ⟨c0, c1, rfl, a.M_mono ?_ (a.M_bound h0), b.M_mono ?_ (b.M_bound h1)⟩
  ·rintro k ⟨h2, h3, h4, q, hq, hc⟩
   exact ⟨h2, h3, h4, q, List.mem_append_left _ hq, hc⟩
  ·rintro k ⟨h2, h3, h4, q, hq, hc⟩
   exact ⟨h2, h3, h4, q, List.mem_append_right _ hq, hc⟩
 M_move := by
  rintro w w1 base ok x cs hm ⟨c0, c1, rfl, h0, h1⟩
  exact ⟨c0, c1, rfl, a.M_move hm h0, b.M_move hm h1⟩
 M_lower := by
  rintro w base base' ok x cs hb ⟨c0, c1, rfl, h0, h1⟩
  exact ⟨c0, c1, rfl, a.M_lower hb h0, b.M_lower hb h1⟩
def iso {α β : Type} (d : Kd α) (f : β → α) : Kd β where
 sz := d.sz
 E := d.E
 K := fun w x cs => d.K w (f x) cs
 M := fun w base ok x cs => d.M w base ok (f x) cs
 K_len := d.K_len
 K_one := d.K_one
 K_below := d.K_below
 K_of_M := d.K_of_M
 M_mono := d.M_mono
 M_bound := d.M_bound
 M_move := d.M_move
 M_lower := d.M_lower
def bot {α : Type} (sz : Nat) (E : List Nat) : Kd α where
 sz := sz
 E := E
 K := fun _ _ _ => False
 M := fun _ _ _ _ _ => False
 K_len := fun h => h.elim
 K_one := fun h => h.elim
 K_below := fun _ h => h
 K_of_M := fun h => h
 M_mono := fun _ h => h
 M_bound := fun h => h
 M_move := fun _ h => h
 M_lower := fun _ h => h
def upto {α : Type} (F : Kd α → Kd α) (sz : Nat) (E : List Nat) : Nat → Kd α
 | 0 => bot sz E
 | n + 1 => F (upto F sz E n)
theorem C_get {α : Type} {d : Kd α} {w : World} {A : Option Addr} {n : Nat} {xs : List α} (h : d.C w A n xs) (z : α) (i : Int) (h0 : 0 ≤ i) (h1 : i < n) :
  ∃ ad c, A = some ad ∧ c.length = d.sz ∧ d.K w (xs.getD i.toNat z) c ∧ ∀ j u, c[j]? = some u → w.cell? (ad.add (i.toNat * d.sz + j)) = some u := ReadsRow.get_ h z i h0 h1
theorem R_appended {α : Type} {d : Kd α} {e base : Nat} {ok okp : Nat → Prop} {W w1 : World} {v v1 : Value} {xs : List α} {p : α} {inner cs : List Value} (h0 : ∀ k, v.ownBlock = some k → ok k) (hr : Reps (d.M W base (fun k => ok k ∧ some k ≠ v.ownBlock)) d.sz xs inner) (hp : d.M W base okp p cs) (hokp : ∀ k, okp k → ok k ∧ some k ≠ v.ownBlock) (hfresh : ∀ k, W.heap.size ≤ k → ok k)
  (hown : w1.ownsRow base e d.sz v1 (xs.length + 1) (inner ++ cs)) (hg : W.grownBy w1 v.ownBlock) (hat : v1.ownBlock = v.ownBlock ∨ ∃ b, v1.ownBlock = some b ∧ W.heap.size ≤ b) : d.R e w1 base ok v1 (xs ++ [p]) := by
 have hne : ∀ k, some k ≠ v.ownBlock → k < W.heap.size → some k ≠ v1.ownBlock := by
  intro k hk hlt
  rcases hat with hat | ⟨b, hb, hle⟩
  ·rw [hat]; exact hk
  ·rw [hb]
   intro he
   injection he with he
   omega
 have step : ∀ {q : α} {c : List Value} {o : Nat → Prop}, d.M W base o q c → (∀ k, o k → ok k ∧ some k ≠ v.ownBlock) → d.M w1 base (fun k => ok k ∧ some k ≠ v1.ownBlock) q c := by
  intro q c o hq ho
  have h1 := d.M_move (w1 := w1) (fun k hk => hg.block k hk.2.2.1 (ho k hk.1).2) (d.M_bound hq)
  exact d.M_mono (fun k hk => ⟨(ho k hk.1).1, hne k (ho k hk.1).2 hk.2.2.1⟩) h1
 refine ⟨fun k hk => ?_, inner ++ cs, by rw [List.length_append, List.length_singleton]; exact hown, ?_⟩
 ·rcases hat with hat | ⟨b, hb, hle⟩
  ·exact h0 k (hat ▸ hk)
  ·rw [hb] at hk
   injection hk with hk
   exact hfresh k (by omega)
 ·exact (hr.imp_ (fun _ _ hq => step hq (fun _ hk => hk))).snoc (step hp hokp) (d.K_len (d.K_of_M hp))
section
variable {P : Program} {ops : Array Oper} {rest : List Oper} {o : Oper} {a : Act} {Q : Exit → Act → World → Prop} {α : Type}
theorem R_append (d : Kd α) {w0 W : World} (base : Nat) (hgd : o.guard = none) (s x : Operand) (t e : TypeId) (z : Value) (bytes : Nat)
  (ho : o.op = .call { callee := .builtin .append, args := #[s, x], argTypes := #[t, t] })
  (ht : P.underlying t = some (.slice e)) (hinfo : (P.info? e).map (fun i => (i.zero, i.size, i.bytes)) = some (some z, d.sz, bytes)) (hz : z.cells.size = d.sz) (hs0 : 0 < d.sz) (hb0 : 0 < bytes)
  (v : Value) (xs : List α) (p : α) (cs : List Value) (ok okp : Nat → Prop) (hs : a.eval s = v) (hx : a.eval x = .slice (some ⟨W.heap.size, 0, none⟩) 1 1) (hp : d.M W base okp p cs) (hokp : ∀ k, okp k → ok k ∧ some k ≠ v.ownBlock) (hfresh : ∀ k, W.heap.size ≤ k → ok k)
  (HO : d.R e W base ok v xs) (HB : Below base w0 W) (hbase : base ≤ W.heap.size) (hl : (xs.length + 1) * bytes ≤ 140737488355328)
  (h : ∀ v1 w1, d.R e w1 base ok v1 (xs ++ [p]) → Below base w0 w1 → W.grownBy w1 v.ownBlock → (v1.ownBlock = v.ownBlock ∨ ∃ b, v1.ownBlock = some b ∧ W.heap.size ≤ b) → wpList P ops Q rest (a.put o.dst v1) w1) :
  wpList P ops Q (o :: rest) a (W.alloc (.cells cs.toArray e)) := by
 obtain ⟨h0, inner, hown, hr⟩ := HO
 refine print_append_cells base hgd s x t e z d.sz bytes ho ht hinfo hz hs0 hb0 v xs.length inner cs hs hx (d.K_len (d.K_of_M hp)) (d.K_one (d.K_of_M hp)) hown HB hbase hl ?_
 intro v1 w1 hown1 hb1 hg1 hat1
 exact h v1 w1 (R_appended h0 hr hp hokp hfresh hown1 hg1 hat1) hb1 hg1 hat1
end
section
variable {P : Program} {ops : Array Oper} {o : Oper} {a : Act} {Q : Exit → Act → World → Prop} {Kc : Act → World → Prop} {α : Type}
theorem R_append_step (d : Kd α) {w0 W : World} (base : Nat) (hw : Region.wanted o (yielded ops a.tmps) = true) (s x : Operand) (t e : TypeId) (z : Value) (bytes : Nat)
  (ho : o.op = .call { callee := .builtin .append, args := #[s, x], argTypes := #[t, t] })
  (ht : P.underlying t = some (.slice e)) (hinfo : (P.info? e).map (fun i => (i.zero, i.size, i.bytes)) = some (some z, d.sz, bytes)) (hz : z.cells.size = d.sz) (hs0 : 0 < d.sz) (hb0 : 0 < bytes)
  (v : Value) (xs : List α) (p : α) (cs : List Value) (ok okp : Nat → Prop) (hs : a.eval s = v) (hx : a.eval x = .slice (some ⟨W.heap.size, 0, none⟩) 1 1) (hp : d.M W base okp p cs) (hokp : ∀ k, okp k → ok k ∧ some k ≠ v.ownBlock) (hfresh : ∀ k, W.heap.size ≤ k → ok k)
  (HO : d.R e W base ok v xs) (HB : Below base w0 W) (hbase : base ≤ W.heap.size) (hl : (xs.length + 1) * bytes ≤ 140737488355328)
  (h : ∀ v1 w1, d.R e w1 base ok v1 (xs ++ [p]) → Below base w0 w1 → W.grownBy w1 v.ownBlock → (v1.ownBlock = v.ownBlock ∨ ∃ b, v1.ownBlock = some b ∧ W.heap.size ≤ b) → Kc (a.put o.dst v1) w1) :
  if Region.wanted o (yielded ops a.tmps) = true then Oper.wp P o a (W.alloc (.cells cs.toArray e)) Kc Q else Kc (a.put o.dst undef) (W.alloc (.cells cs.toArray e)) := by
 obtain ⟨h0, inner, hown, hr⟩ := HO
 refine step_append_cells base hw s x t e z d.sz bytes ho ht hinfo hz hs0 hb0 v xs.length inner cs hs hx (d.K_len (d.K_of_M hp)) (d.K_one (d.K_of_M hp)) hown HB hbase hl ?_
 intro v1 w1 hown1 hb1 hg1 hat1
 exact h v1 w1 (R_appended h0 hr hp hokp hfresh hown1 hg1 hat1) hb1 hg1 hat1
end
theorem reps_scalar {α : Type} {enc : α → Value} (xs : List α) : Reps (fun (x : α) (cs : List Value) => cs = [enc x]) 1 xs (encs enc xs) := by
 refine ⟨by simp [encs], fun j p hj => ?_⟩
 obtain ⟨hl, hp⟩ := List.getElem?_eq_some_iff.1 hj
 have hl' : j < (encs enc xs).length := by rw [encs_length]; exact hl
 rw [Nat.mul_one, List.drop_eq_getElem_cons hl']
 simp [encs, hp]
theorem R_of_own {α : Type} {enc : α → Value} {h1 : ∀ x, (enc x).oneCell' = true} {e : Nat} {w : World} {base : Nat} {ok : Nat → Prop} {v : Value} {xs : List α} (ho : w.ownsRow base e 1 v xs.length (encs enc xs)) (hok : ∀ k, v.ownBlock = some k → ok k) : (scalar enc h1).R e w base ok v xs := ⟨hok, encs enc xs, ho, reps_scalar xs⟩
theorem own_of_R {α : Type} {enc : α → Value} {h1 : ∀ x, (enc x).oneCell' = true} {e : Nat} {w : World} {base : Nat} {ok : Nat → Prop} {v : Value} {xs : List α} (h : (scalar enc h1).R e w base ok v xs) : w.ownsRow base e 1 v xs.length (encs enc xs) := by
 obtain ⟨_, inner, ho, hr⟩ := h
 have : inner = encs enc xs := by
  apply List.ext_getElem?
  intro j
  rcases Nat.lt_or_ge j xs.length with hj | hj
  ·have h2 := hr.2 j _ (List.getElem?_eq_getElem hj)
   have hl : j < inner.length := by have := hr.1; simp [scalar] at this; omega
   have h3 : (inner.drop (j * 1)).take 1 = [enc xs[j]] := h2
   rw [Nat.mul_one, List.drop_eq_getElem_cons hl] at h3
   have h4 : inner[j] = enc xs[j] := by
    have h5 := congrArg List.head? h3
    rw [List.take_succ_cons] at h5
    exact Option.some.inj h5
   rw [List.getElem?_eq_getElem hl, h4]
   simp [encs, List.getElem?_eq_getElem hj]
  ·have h3 : inner.length = xs.length := by have := hr.1; simp [scalar] at this; omega
   rw [List.getElem?_eq_none (by omega), List.getElem?_eq_none (by rw [encs_length]; omega)]
 rw [← this]
 exact ho
theorem reads_of_C {α : Type} {enc : α → Value} {d : α} {h1 : ∀ x, (enc x).oneCell' = true} {w : World} {A : Option Addr} {n : Nat} {xs : List α} (h : (scalar enc h1).C w A n xs) : ReadsOf enc d w A n xs := by
 refine ⟨h.1, h.2.1, fun hn => ?_⟩
 obtain ⟨ad, e, hc⟩ := h.2.2 hn
 refine ⟨ad, e, fun j hj => ?_⟩
 have hl : j < xs.length := by have := h.1; omega
 obtain ⟨c, _, hK, hcell⟩ := hc j _ (List.getElem?_eq_getElem hl)
 have hK' : c = [enc xs[j]] := hK
 subst hK'
 have := hcell 0 _ rfl
 simpa [scalar, List.getD_eq_getElem?_getD, List.getElem?_eq_getElem hl] using this
end Kd
namespace Kd
structure Mono {α β : Type} (F : Kd α → Kd β) : Prop where
 sz : ∀ d d' : Kd α, d.sz = d'.sz → (F d).sz = (F d').sz
 K : ∀ d d' : Kd α, d.sz = d'.sz → (∀ w x cs, d.K w x cs → d'.K w x cs) → ∀ w x cs, (F d).K w x cs → (F d').K w x cs
 M : ∀ d d' : Kd α, d.sz = d'.sz → (∀ w base ok x cs, d.M w base ok x cs → d'.M w base ok x cs) → ∀ w base ok x cs, (F d).M w base ok x cs → (F d').M w base ok x cs
section
variable {α : Type} {F : Kd α → Kd α} {sz : Nat} {E : List Nat} {hs : ∀ n, (upto F sz E n).sz = sz} {hE : ∀ n q, q ∈ (upto F sz E n).E → q ∈ E}
end
end Kd
namespace Kd
theorem R_after {α : Type} {d : Kd α} {e base : Nat} {ok : Nat → Prop} {W w1 : World} {u v v1 : Value} {xs : List α} (h : d.R e W base (fun k => ok k ∧ some k ≠ v.ownBlock) u xs) (hg : W.grownBy w1 v.ownBlock) (hat : v1.ownBlock = v.ownBlock ∨ ∃ b, v1.ownBlock = some b ∧ W.heap.size ≤ b) : d.R e w1 base (fun k => ok k ∧ some k ≠ v1.ownBlock) u xs := by
 refine R_mono (R_move (R_bound h) (fun k hk => hg.block k hk.2.2.1 hk.1.2)) (fun k hk => ⟨hk.1.1, ?_⟩)
 rcases hat with hat | ⟨b, hb, hle⟩
 ·rw [hat]; exact hk.1.2
 ·rw [hb]
  intro he
  injection he with he
  have := hk.2.2.1
  omega
end Kd
namespace Kd
section
variable {α β : Type} {d : Kd α} {d' : Kd β} {e e' : Nat} {w w1 W : World} {base b b' : Nat} {ok ok' okv oku : Nat → Prop} {v u : Value} {xs : List α} {ys : List β}
theorem R_alloc (h : d.R e w base ok v xs) (o : Obj) : d.R e (w.alloc o) base ok v xs := R_below h (below_alloc (Below.refl _ _) o)
theorem R_drew (h : d.R e w base ok v xs) : d.R e w.drew base ok v xs := R_below h (below_drew (Below.refl _ _))
theorem R_drewN (h : d.R e w base ok v xs) (m : Nat) : d.R e (w.drewN m) base ok v xs := R_below h (pw_below_drewN (Below.refl _ _) m)
theorem C_alloc {A : Option Addr} {n : Nat} (h : d.C w A n xs) (o : Obj) : d.C (w.alloc o) A n xs := C_below h (below_alloc (Below.refl _ _) o)
theorem C_drew {A : Option Addr} {n : Nat} (h : d.C w A n xs) : d.C w.drew A n xs := C_below h (below_drew (Below.refl _ _))
theorem C_drewN {A : Option Addr} {n : Nat} (h : d.C w A n xs) (m : Nat) : d.C (w.drewN m) A n xs := C_below h (pw_below_drewN (Below.refl _ _) m)
theorem C_nil (d : Kd α) (w : World) : d.C w none ([] : List α).length [] := ⟨rfl, by simp, fun h => absurd h (Nat.lt_irrefl 0)⟩
theorem R_reads' {A : Option Addr} {n c : Nat} (h : d.R e w base ok (.slice A n c) xs) : n = xs.length ∧ n ≤ c ∧ d.C w A xs.length xs := by
 obtain ⟨A', c', he, hl, hr⟩ := R_reads h
 injection he with h1 h2 h3
 subst h1
 exact ⟨h2, by omega, hr⟩
theorem R_lt (h : d.R e w base ok v xs) : ∀ k, v.ownBlock = some k → k < w.heap.size := by
 obtain ⟨inner, ho⟩ := R_own h
 exact own_lt ho
theorem R_base (h : d.R e w base ok v xs) : ∀ k, v.ownBlock = some k → base ≤ k := by
 obtain ⟨inner, ho⟩ := R_own h
 exact own_base ho
theorem R_form (h : d.R e w base ok v xs) (hp : 0 < xs.length) : ∃ g cap, v = .slice (some ⟨g, 0, none⟩) xs.length cap ∧ base ≤ g ∧ g < w.heap.size ∧ ∃ cells, w.heap[g]? = some (.cells cells e (0, 0)) := by
 obtain ⟨inner, ho⟩ := R_own h
 obtain ⟨g, cap, he, hb, hl⟩ := ho.form hp
 obtain ⟨cells, hc⟩ := own_typed ho g (by rw [he]; simp [Value.ownBlock])
 exact ⟨g, cap, he, hb, hl, cells, hc⟩
end
section
variable {w W : World} {A : Option Addr} {n : Nat}
theorem at_int {k : IntKind} {xs : List Int} (h : (Kd.int k).C w A n xs) (i : Int) (h0 : 0 ≤ i) (h1 : i < n) : ∃ ad, A = some ad ∧ w.cell? (ad.add i.toNat) = some (.int k (rd xs i)) :=
 ReadsOf.at_ (reads_of_C (enc := Value.int k) (d := (0 : Int)) (h1 := fun _ => rfl) h) i h0 h1
theorem at_string {xs : List ByteArray} (h : Kd.string.C w A n xs) (i : Int) (h0 : 0 ≤ i) (h1 : i < n) : ∃ ad, A = some ad ∧ w.cell? (ad.add i.toNat) = some (.string (rdOf ByteArray.empty xs i)) :=
 ReadsOf.at_ (reads_of_C (enc := Value.string) (d := ByteArray.empty) (h1 := fun _ => rfl) h) i h0 h1
variable {α : Type} {enc : α → Value} {h1 : ∀ x, (enc x).oneCell' = true} {e base g cap : Nat} {ok : Nat → Prop} {xs : List α}
theorem R_cell (d : α) (h : (scalar enc h1).R e W base ok (.slice (some ⟨g, 0, none⟩) xs.length cap) xs) (i : Int) (h0 : 0 ≤ i) (hi : i < xs.length) : W.cell? ⟨g, i.toNat, none⟩ = some (enc (rdOf d xs i)) ∧ W.frozen? ⟨g, i.toNat, none⟩ = false := own_at_of (own_of_R h) i h0 hi
theorem R_put (h : (scalar enc h1).R e W base ok (.slice (some ⟨g, 0, none⟩) xs.length cap) xs) (i : Int) (x : α) : (scalar enc h1).R e (W.setCell ⟨g, i.toNat, none⟩ (enc x)) base ok (.slice (some ⟨g, 0, none⟩) xs.length cap) (xs.set i.toNat x) ∧ W.grownBy (W.setCell ⟨g, i.toNat, none⟩ (enc x)) (some g) := by
 obtain ⟨ho, hg⟩ := own_store_of (own_of_R h) i x
 exact ⟨R_of_own (by rw [List.length_set]; exact ho) h.1, hg⟩
end
section
variable {P : Program} {ops : Array Oper} {rest : List Oper} {o : Oper} {a : Act} {Q : Exit → Act → World → Prop}
theorem event_run {W w1 : World} {v : Value} (hgd : o.guard = none) (hrun : (execOp a.eval o).run P W = .ok (.value v) w1) (h : wpList P ops Q rest (a.put o.dst v) w1) : wpList P ops Q (o :: rest) a W := by
 refine wpList_plain hgd fun K hK => ?_
 unfold Oper.wp
 rw [hrun]
 exact hK _ _ h
variable {α : Type}
theorem R_lit (d : Kd α) {w0 W : World} (base e : Nat) (hgd : o.guard = none) {N : Tmp} (_hd : o.dst = some N) {xs : List α} {inner : List Value} {ok okp : Nat → Prop}
  (hrun : (execOp a.eval o).run P W = .ok (.value (.slice (some ⟨W.heap.size, 0, none⟩) xs.length xs.length)) (W.alloc (.cells inner.toArray e)))
  (hrep : Reps (d.M W base okp) d.sz xs inner) (hok : ∀ k, okp k → ok k) (hfresh : ok W.heap.size) (HB : Below base w0 W) (hbase : base ≤ W.heap.size) (hm : xs.length ≤ 9223372036854775807)
  (h : ∀ v1 w1, d.R e w1 base ok v1 xs → Below base w0 w1 → W.grownBy w1 none → (∃ b, v1.ownBlock = some b ∧ W.heap.size ≤ b) → wpList P ops Q rest (a.put o.dst v1) w1) : wpList P ops Q (o :: rest) a W := by
 refine event_run hgd hrun (h _ _ ⟨fun k hk => ?_, inner, ?_, ?_⟩ (HB.alloc hbase _) (World.grownBy_alloc W _ none) ⟨W.heap.size, by simp [Value.ownBlock], Nat.le_refl _⟩)
 ·have : W.heap.size = k := by simpa [Value.ownBlock] using hk
  subst this
  exact hfresh
 ·have h2 := World.ownsRow_lit (base := base) (e := e) (size := d.sz) W inner.toArray xs.length hbase (by simpa [maxLen] using hm) (by simpa using hrep.1)
  simpa using h2
 ·refine hrep.imp_ (fun p c hp => d.M_mono (fun k hk => ⟨hok k hk.1, fun he => ?_⟩) (M_below (d.M_bound hp) (below_alloc (Below.refl _ _) _)))
  have h3 : k = W.heap.size := by simpa [Value.ownBlock] using he
  have := hk.2.2.1
  omega
end
end Kd
section
variable {P : Program}
theorem cut_to (t e : TypeId) (kh : IntKind) {i : TypeInfo} (ht : P.underlying t = some (.slice e)) (hi : P.info? e = some i) (A : Option Addr) (n c : Nat) (j : Int) (h0 : 0 ≤ j) (hm : j ≤ n) (hc : n ≤ c) :
  ∀ W : World, (Instr.slice t (.slice A n c) none (some (.int kh j)) none).run P W = .ok (.slice A j.toNat c) W := by
 intro W
 have hel : P.elem t = e := by simp [Program.elem, ht]
 have hu : P.underlying t = some (.slice (P.elem t)) := by rw [hel]; exact ht
 have ha : (A.map fun x => x.add 0) = A := by cases A <;> simp [Addr.add]
 rw [run_slice_h W t A n c hu kh j h0 (by omega), hel]
 simp [sizeOf, typeInfo, hi, sliced, Result.andThen, ha]
end
def QRow (w : World) (base : Nat) (e : TypeId) (size : Nat) (v : Value) (n : Nat) (xs : List Value) : Prop :=
 xs.length = n * size ∧
 ((n = 0 ∧ ∃ A, v = .slice A 0 0 ∧ ∀ a, A = some a → base ≤ a.block ∧ ∃ cur, w.heap[a.block]? = some (.cells cur e (0, 0))) ∨
  ∃ g off cap cur, v = .slice (some ⟨g, off * size, none⟩) n cap ∧ base ≤ g ∧ w.heap[g]? = some (.cells cur e (0, 0)) ∧ n ≤ cap ∧ off + cap ≤ maxLen ∧ cur.size = (off + cap) * size ∧ (cur.toList.drop (off * size)).take (n * size) = xs)
section
variable {w w1 : World} {base n size : Nat} {e : TypeId} {v : Value} {xs : List Value}
theorem q_of_own (h : w.ownsRow base e size v n xs) : QRow w base e size v n xs := by
 obtain ⟨h1, h2⟩ := h
 refine ⟨h1, ?_⟩
 rcases h2 with ⟨rfl, h0⟩ | ⟨g, cap, cur, rfl, hb, hh, hnc, hcm, hcs, ht⟩
 ·exact .inl ⟨h0, none, rfl, fun a ha => by cases ha⟩
 ·exact .inr ⟨g, 0, cap, cur, by rw [Nat.zero_mul], hb, hh, hnc, by rw [Nat.zero_add]; exact hcm, by rw [Nat.zero_add]; exact hcs, by rw [Nat.zero_mul, List.drop_zero]; exact ht⟩
theorem setCells_far {g : Nat} : ∀ (vs : List Value) (o : Nat) {w : World} (k : Nat), k ≠ g → (w.setCells g o vs).heap[k]? = w.heap[k]?
 | [], _, _, _, _ => rfl
 | v :: r, o, w, k, hk => by
  rw [World.setCells, setCells_far r (o + 1) k hk]
  exact Below.heap_setCell w ⟨g, o, none⟩ v k hk
theorem setCells_same (g : Nat) : ∀ (vs : List Value) (o : Nat) (w : World), (w.setCells g o vs).os = w.os ∧ (w.setCells g o vs).tape = w.tape ∧ (w.setCells g o vs).output = w.output ∧ (w.setCells g o vs).heap.size = w.heap.size
 | [], _, _ => ⟨rfl, rfl, rfl, rfl⟩
 | v :: r, o, w => by
  obtain ⟨h1, h2, h3, h4⟩ := setCells_same g r (o + 1) (w.setCell ⟨g, o, none⟩ v)
  rw [World.setCells]
  exact ⟨h1, h2, h3, by rw [h4]; simp [World.setCell]⟩
theorem setCells_row {g : Nat} {e : TypeId} : ∀ (vs : List Value) (o : Nat) (w : World) (cur : Array Value), w.heap[g]? = some (.cells cur e (0, 0)) → o + vs.length ≤ cur.size →
  ∃ cur', (w.setCells g o vs).heap[g]? = some (.cells cur' e (0, 0)) ∧ cur'.size = cur.size ∧ cur'.toList = cur.toList.take o ++ vs ++ cur.toList.drop (o + vs.length)
 | [], o, w, cur, h, _ => ⟨cur, h, rfl, by simp⟩
 | v :: r, o, w, cur, h, hl => by
  have h2 := blk_set h o v
  simp only [List.length_cons] at hl
  obtain ⟨cur', h3, h4, h5⟩ := setCells_row r (o + 1) (w.setCell ⟨g, o, none⟩ v) _ h2 (by simp; omega)
  refine ⟨cur', h3, by rw [h4]; simp, ?_⟩
  rw [h5, Array.toList_setIfInBounds]
  have ho : o < cur.toList.length := by rw [Array.length_toList]; omega
  rw [List.take_set, List.drop_set_of_lt (by omega)]
  simp only [List.length_cons]
  rw [show o + 1 + r.length = o + (r.length + 1) by omega]
  congr 1
  rw [List.take_succ_eq_append_getElem ho, List.set_append_right _ _ (by rw [List.length_take]; omega)]
  have ho' : o < cur.size := by omega
  simp [Nat.min_eq_left (Nat.le_of_lt ho')]
end
section
variable {P : Program}
end
namespace Kd
def Q {α : Type} (d : Kd α) (e : Nat) (w : World) (base : Nat) (ok : Nat → Prop) (v : Value) (xs : List α) : Prop :=
 (∀ k, v.ownBlock = some k → ok k) ∧ ∃ inner, QRow w base e d.sz v xs.length inner ∧ Reps (d.M w base (fun k => ok k ∧ some k ≠ v.ownBlock)) d.sz xs inner
section
variable {α : Type} {d : Kd α} {e : Nat} {w w1 W : World} {base : Nat} {ok ok' : Nat → Prop} {v : Value} {xs : List α}
theorem Q_of_R (h : d.R e w base ok v xs) : d.Q e w base ok v xs := by
 obtain ⟨h0, inner, ho, hr⟩ := h
 exact ⟨h0, inner, q_of_own ho, hr⟩
theorem Q_nil (d : Kd α) (e : Nat) (w : World) (base : Nat) (ok : Nat → Prop) : d.Q e w base ok (.slice none 0 0) [] := Q_of_R (R_nil d e w base ok)
end
section
variable {P : Program} {ops : Array Oper} {rest : List Oper} {o : Oper} {a : Act} {Q' : Exit → Act → World → Prop} {Kc : Act → World → Prop} {α : Type}
end
end Kd
namespace Kd
section
variable {α : Type} {d : Kd α} {e e' : Nat} {w w1 W : World} {base : Nat} {ok : Nat → Prop} {u v : Value} {xs : List α}
theorem R_typed (h : d.R e w base ok v xs) : ∀ k, v.ownBlock = some k → ∃ cells, w.heap[k]? = some (.cells cells e (0, 0)) := by
 obtain ⟨inner, ho⟩ := R_own h
 exact fun k hk => own_typed ho k hk
theorem R_elder' (hu : d.R e W base ok u xs) (hbase : ∀ k, v.ownBlock = some k → W.heap.size ≤ k) (hb : Below W.heap.size W w1) : d.R e w1 base (fun k => ok k ∧ some k ≠ v.ownBlock) u xs :=
 R_mono (R_move (R_bound hu) (fun k hk => hb.block k hk.2.2.1)) (fun k hk => ⟨hk.1, fun he => by have := hbase k he.symm; have := hk.2.2.1; omega⟩)
theorem R_new' (h : d.R e w1 W.heap.size ok v xs) (hlt : ∀ k, u.ownBlock = some k → k < W.heap.size) : d.R e w1 W.heap.size (fun k => ok k ∧ some k ≠ u.ownBlock) v xs :=
 R_mono (R_bound h) (fun k hk => ⟨hk.1, fun he => by have := hlt k he.symm; have := hk.2.1; omega⟩)
theorem fresh' (hlt : ∀ k, u.ownBlock = some k → k < W.heap.size) : ∀ k, W.heap.size ≤ k → some k ≠ u.ownBlock := fun k hk he => by have := hlt k he.symm; omega
end
end Kd
theorem seg_get {α : Type} (a seg : List α) (o : Nat) (h : o + seg.length ≤ a.length) (q : Nat) :
  (a.take o ++ seg ++ a.drop (o + seg.length))[q]? = if q < o then a[q]? else if q < o + seg.length then seg[q - o]? else a[q]? := by
 have hl : (a.take o).length = o := by rw [List.length_take]; omega
 rw [List.append_assoc]
 by_cases h1 : q < o
 ·rw [if_pos h1, List.getElem?_append_left (by omega), List.getElem?_take, if_pos h1]
 ·rw [if_neg h1, List.getElem?_append_right (by omega), hl]
  by_cases h2 : q < o + seg.length
  ·rw [if_pos h2, List.getElem?_append_left (by omega)]
  ·rw [if_neg h2, List.getElem?_append_right (by omega), List.getElem?_drop]
   congr 1
   omega
namespace Kd
section
variable {α : Type} {d : Kd α} {e base g n cap : Nat} {ok okp : Nat → Prop} {W : World} {xs : List α}
theorem R_elem (h : d.R e W base ok (.slice (some ⟨g, 0, none⟩) n cap) xs) (z : α) (i : Int) (h0 : 0 ≤ i) (h1 : i < n) :
  ∃ c, c.length = d.sz ∧ d.M W base (fun k => ok k ∧ k ≠ g) (xs.getD i.toNat z) c ∧ (∀ j u, c[j]? = some u → W.cell? ⟨g, i.toNat * d.sz + j, none⟩ = some u) ∧ ∀ j, W.frozen? ⟨g, i.toNat * d.sz + j, none⟩ = false := by
 obtain ⟨hn, hnc, hC⟩ := R_reads' h
 obtain ⟨_, inner, ho, hr⟩ := h
 have hil : i.toNat < xs.length := by omega
 have hseg : i.toNat * d.sz + d.sz ≤ inner.length := by rw [hr.1, ← Nat.succ_mul]; exact Nat.mul_le_mul_right _ hil
 have hM := hr.2 i.toNat _ (List.getElem?_eq_getElem hil)
 refine ⟨(inner.drop (i.toNat * d.sz)).take d.sz, by rw [List.length_take, List.length_drop]; omega, ?_, fun j u hu => ?_, fun j => ?_⟩
 ·rw [List.getD_eq_getElem?_getD, List.getElem?_eq_getElem hil]
  exact d.M_mono (fun k hk => ⟨hk.1, fun he => hk.2 (by rw [he]; simp [Value.ownBlock])⟩) hM
 ·rw [List.getElem?_take] at hu
  split at hu
  ·rw [List.getElem?_drop] at hu
   have := ho.cells (g := g) (by simp [Value.ownBlock]) _ u hu
   rwa [add_plain] at this
  ·cases hu
 ·obtain ⟨cells, hc⟩ := own_typed ho g (by simp [Value.ownBlock])
  exact blk_frozen hc _
theorem R_seg (h : d.R e W base ok (.slice (some ⟨g, 0, none⟩) n cap) xs) (i : Int) (h0 : 0 ≤ i) (h1 : i < n) {c seg : List Value} {j : Nat} (hcl : c.length = d.sz) (hcc : ∀ j u, c[j]? = some u → W.cell? ⟨g, i.toNat * d.sz + j, none⟩ = some u)
  (hj : j + seg.length ≤ d.sz) {x' : α} (hM : d.M W base okp x' (c.take j ++ seg ++ c.drop (j + seg.length))) (hokp : ∀ k, okp k → ok k ∧ k ≠ g) :
  d.R e (W.setCells g (i.toNat * d.sz + j) seg) base ok (.slice (some ⟨g, 0, none⟩) n cap) (xs.set i.toNat x') ∧ W.grownBy (W.setCells g (i.toNat * d.sz + j) seg) (some g) := by
 obtain ⟨hn, hnc, _⟩ := R_reads' h
 obtain ⟨hok, inner, ho, hr⟩ := h
 have hil : i.toNat < xs.length := by omega
 have hseg : i.toNat * d.sz + d.sz ≤ inner.length := by rw [hr.1, ← Nat.succ_mul]; exact Nat.mul_le_mul_right _ hil
 have hin : inner.length = n * d.sz := by rw [hr.1, hn]
 obtain ⟨ho1, ho2⟩ := ho
 rcases ho2 with ⟨hv, _⟩ | ⟨g', cap', cur, hv, hb, hh, hnc', hcm, hcs, ht⟩
 ·cases hv
 injection hv with ha _ hc
 injection ha with ha
 injection ha with hg
 subst hg; subst hc
 have hfit : i.toNat * d.sz + j + seg.length ≤ cur.size := by
  have : n * d.sz ≤ cap * d.sz := Nat.mul_le_mul_right _ hnc
  omega
 obtain ⟨cur', h3, h4, h5⟩ := setCells_row seg (i.toNat * d.sz + j) W cur hh hfit
 obtain ⟨s1, s2, s3, s4⟩ := setCells_same g seg (i.toNat * d.sz + j) W
 have hfar : ∀ k, k ≠ g → (W.setCells g (i.toNat * d.sz + j) seg).heap[k]? = W.heap[k]? := fun k hk => setCells_far seg _ k hk
 -- the element's cells before are what was read
 have hcin : ∀ q, q < d.sz → c[q]? = inner[i.toNat * d.sz + q]? := by
  intro q hq
  have hq' : q < c.length := by omega
  have h6 := hcc q _ (List.getElem?_eq_getElem hq')
  rw [cell_of_row W g _ cur e (0, 0) hh] at h6
  rw [List.getElem?_eq_getElem hq', ← h6, ← ht, List.getElem?_take, if_pos (by rw [← hn]; omega), Array.getElem?_toList]
 refine ⟨⟨hok, inner.take (i.toNat * d.sz + j) ++ seg ++ inner.drop (i.toNat * d.sz + j + seg.length), ⟨?_, .inr ⟨g, cap, cur', by rw [List.length_set, hn], hb, h3, by rw [List.length_set, ← hn]; exact hnc, hcm, by rw [h4, hcs], ?_⟩⟩, ?_⟩,
  ⟨s1, s2, s3, by rw [s4]; exact Nat.le_refl _, fun k _ hk => hfar k (fun he => hk (by rw [he]))⟩⟩
 ·rw [List.length_set]
  simp only [List.length_append, List.length_take, List.length_drop]
  rw [hr.1] at hseg ⊢
  omega
 ·rw [List.length_set, ← hn]
  apply List.ext_getElem?
  intro q
  rw [List.getElem?_take, h5]
  rw [seg_get cur.toList seg (i.toNat * d.sz + j) (by rw [Array.length_toList]; omega) q, seg_get inner seg (i.toNat * d.sz + j) (by omega) q]
  have hcur : ∀ q, q < n * d.sz → cur.toList[q]? = inner[q]? := by
   intro q hq
   rw [← ht, List.getElem?_take, if_pos (by rw [← hn]; exact hq)]
  by_cases hq : q < n * d.sz
  ·rw [if_pos hq, hcur q hq]
  ·rw [if_neg hq, if_neg (by omega), if_neg (by omega), List.getElem?_eq_none (by omega)]
 ·refine ⟨?_, fun m p hm => ?_⟩
  ·rw [List.length_set]
   simp only [List.length_append, List.length_take, List.length_drop]
   rw [hr.1] at hseg ⊢
   omega
  ·have hml : m < xs.length := by
    have := (List.getElem?_eq_some_iff.1 hm).1
    rwa [List.length_set] at this
   have hmfit : m * d.sz + d.sz ≤ inner.length := by rw [hr.1, ← Nat.succ_mul]; exact Nat.mul_le_mul_right _ hml
   have hgo : some g = (Value.slice (some ⟨g, 0, none⟩) n cap).ownBlock := by simp [Value.ownBlock]
   by_cases hmi : m = i.toNat
   ·subst hmi
    rw [List.getElem?_set_self (by omega)] at hm
    injection hm with hm
    subst hm
    have hcells : ((inner.take (i.toNat * d.sz + j) ++ seg ++ inner.drop (i.toNat * d.sz + j + seg.length)).drop (i.toNat * d.sz)).take d.sz = c.take j ++ seg ++ c.drop (j + seg.length) := by
     apply List.ext_getElem?
     intro q
     rw [List.getElem?_take, List.getElem?_drop, seg_get inner seg _ (by omega), seg_get c seg j (by omega) q]
     by_cases hq : q < d.sz
     ·rw [if_pos hq, hcin q hq]
      by_cases hq1 : q < j
      ·rw [if_pos (by omega), if_pos hq1]
      ·rw [if_neg (by omega), if_neg hq1]
       by_cases hq2 : q < j + seg.length
       ·rw [if_pos (by omega), if_pos hq2]
        congr 1
        omega
       ·rw [if_neg (by omega), if_neg hq2]
     ·rw [if_neg hq, if_neg (by omega), if_neg (by omega), List.getElem?_eq_none (by omega)]
    rw [hcells]
    refine d.M_mono (fun k hk => ?_) (d.M_move (w1 := W.setCells g (i.toNat * d.sz + j) seg) (fun k hk => hfar k (hokp k hk).2) hM)
    exact ⟨(hokp k hk).1, fun he => (hokp k hk).2 (by rw [← hgo] at he; injection he)⟩
   ·rw [List.getElem?_set_ne (by omega)] at hm
    have hold := hr.2 m p hm
    have hcells : ((inner.take (i.toNat * d.sz + j) ++ seg ++ inner.drop (i.toNat * d.sz + j + seg.length)).drop (m * d.sz)).take d.sz = (inner.drop (m * d.sz)).take d.sz := by
     apply List.ext_getElem?
     intro q
     rw [List.getElem?_take, List.getElem?_take, List.getElem?_drop, List.getElem?_drop, seg_get inner seg _ (by omega)]
     by_cases hq : q < d.sz
     ·rw [if_pos hq, if_pos hq]
      rcases Nat.lt_or_gt_of_ne hmi with hlt | hgt
      ·have : m * d.sz + d.sz ≤ i.toNat * d.sz := by rw [← Nat.succ_mul]; exact Nat.mul_le_mul_right _ hlt
       rw [if_pos (by omega)]
      ·have : i.toNat * d.sz + d.sz ≤ m * d.sz := by rw [← Nat.succ_mul]; exact Nat.mul_le_mul_right _ hgt
       rw [if_neg (by omega), if_neg (by omega)]
     ·rw [if_neg hq, if_neg hq]
    rw [hcells]
    refine d.M_move (fun k hk => hfar k (fun he => hk.2 (by rw [he]; exact hgo))) hold
end
end Kd
namespace Kd
section
variable {α : Type} {F : Kd α → Kd α} {sz : Nat} {E : List Nat} {hs : ∀ n, (upto F sz E n).sz = sz} {hE : ∀ n q, q ∈ (upto F sz E n).E → q ∈ E}
end
end Kd
namespace Kd
theorem reps_append {α : Type} {R : α → List Value → Prop} {size : Nat} {ps qs : List α} {cs ds : List Value} (h : Reps R size ps cs) (h' : Reps R size qs ds) : Reps R size (ps ++ qs) (cs ++ ds) := by
 refine ⟨by rw [List.length_append, List.length_append, h.1, h'.1, Nat.add_mul], fun j p hj => ?_⟩
 rcases Nat.lt_or_ge j ps.length with hlt | hge
 ·rw [List.getElem?_append_left hlt] at hj
  have hle : j * size + size ≤ cs.length := by rw [h.1, ← Nat.succ_mul]; exact Nat.mul_le_mul_right _ hlt
  rw [List.drop_append_of_le_length (by omega), List.take_append_of_le_length (by rw [List.length_drop]; omega)]
  exact h.2 j p hj
 ·rw [List.getElem?_append_right hge] at hj
  have h2 := h'.2 (j - ps.length) p hj
  have hle : ps.length * size ≤ j * size := Nat.mul_le_mul_right _ hge
  rw [List.drop_append, List.drop_eq_nil_of_le (by rw [h.1]; exact hle), List.nil_append, h.1, ← Nat.sub_mul]
  exact h2
section
variable {P : Program} {ops : Array Oper} {rest : List Oper} {o : Oper} {a : Act} {Q : Exit → Act → World → Prop} {α : Type}
end
end Kd
namespace Kd
section
variable {P : Program} {ops : Array Oper} {rest : List Oper} {o : Oper} {a : Act} {Q : Exit → Act → World → Prop} {α : Type}
end
end Kd
theorem add_add (a : Addr) (i j : Nat) : (a.add i).add j = a.add (i + j) := by
 unfold Addr.add
 by_cases h1 : i = 0 <;> by_cases h2 : j = 0 <;> simp [h1, h2, Nat.add_assoc]
namespace Kd
section
variable {α : Type} {k : Kd α} {w : World} {A : Option Addr} {xs : List α} {m c : Nat}
theorem C_take (h : k.C w A xs.length xs) (hm : m ≤ xs.length) : k.C w A (xs.take m).length (xs.take m) := by
 have hl : (xs.take m).length = m := by rw [List.length_take]; omega
 refine ⟨rfl, by rw [hl]; have := h.2.1; omega, fun hp => ?_⟩
 obtain ⟨ad, e, hc⟩ := h.2.2 (by omega)
 refine ⟨ad, e, fun j p hj => hc j p ?_⟩
 rw [List.getElem?_take] at hj
 split at hj
 ·exact hj
 ·cases hj
end
end Kd
section
variable {P : Program}
end
theorem below_size {w W : World} (h : Below w.heap.size w W) : w.heap.size ≤ W.heap.size := h.size
theorem below_step {w W w2 : World} (h : Below w.heap.size w W) (k : Below W.heap.size W w2) : Below w.heap.size w w2 := below_then h h.size k
theorem ReadsInt.nil (W : World) (k : IntKind) : ReadsInt W k none ([] : List Int).length [] := ⟨rfl, by simp, fun h => absurd h (Nat.lt_irrefl 0)⟩
theorem ReadsInt.drewN {W : World} {k : IntKind} {A : Option Addr} {n : Nat} {xs : List Int} (h : ReadsInt W k A n xs) (m : Nat) : ReadsInt (W.drewN m) k A n xs := h
theorem below_set {w W : World} {g j : Nat} {v : Value} (h : Below w.heap.size w W) (hg : w.heap.size ≤ g) : Below w.heap.size w (W.setCell ⟨g, j, none⟩ v) := h.setCell hg _
theorem keep_cell {w W : World} {g : Nat} (h : KeepBut w W g none) {a : Addr} {v : Value} (hc : w.cell? a = some v) (hne : a.block ≠ g) : W.cell? a = some v := by
 have := h.2 a.block (World.block_lt_of_cell? w a hc) hne (by simp)
 simpa [World.cell?, this] using hc
theorem add_block (a : Addr) (i : Nat) : (a.add i).block = a.block := by unfold Addr.add; split <;> rfl
theorem ReadsOf.nil {α : Type} (enc : α → Value) (d : α) (W : World) : ReadsOf enc d W none ([] : List α).length [] := ⟨rfl, by simp, fun h => absurd h (Nat.lt_irrefl 0)⟩
theorem ReadsOf.drewN {α : Type} {enc : α → Value} {d : α} {W : World} {A : Option Addr} {n : Nat} {xs : List α} (h : ReadsOf enc d W A n xs) (m : Nat) : ReadsOf enc d (W.drewN m) A n xs := h
theorem ReadsInt.keep {w W : World} {k : IntKind} {A : Option Addr} {n g : Nat} {xs : List Int} (h : ReadsInt w k A n xs) (hk : KeepBut w W g none) (hf : ∀ ad, A = some ad → 0 < n → ad.block ≠ g) : ReadsInt W k A n xs :=
 ⟨h.1, h.2.1, fun hn => by
  obtain ⟨ad, e, hc⟩ := h.2.2 hn
  exact ⟨ad, e, fun j hj => keep_cell hk (hc j hj) (by rw [add_block]; exact hf ad e hn)⟩⟩
theorem ReadsOf.keep {α : Type} {enc : α → Value} {d : α} {w W : World} {A : Option Addr} {n g : Nat} {xs : List α} (h : ReadsOf enc d w A n xs) (hk : KeepBut w W g none) (hf : ∀ ad, A = some ad → 0 < n → ad.block ≠ g) : ReadsOf enc d W A n xs :=
 ⟨h.1, h.2.1, fun hn => by
  obtain ⟨ad, e, hc⟩ := h.2.2 hn
  exact ⟨ad, e, fun j hj => keep_cell hk (hc j hj) (by rw [add_block]; exact hf ad e hn)⟩⟩
theorem cell_far {W : World} {p a : Addr} (h : a.block ≠ p.block) (u : Value) : (W.setCell p u).cell? a = W.cell? a := by
 have := Below.heap_setCell W p u a.block h
 simp [World.cell?, this]
theorem blk_put {w : World} {g : Nat} {t : TypeId} {cs cs' : Array Value} (h : w.heap[g]? = some (.cells cs t (0, 0))) (i : Nat) (u : Value) (e : cs.setIfInBounds i u = cs') : (w.setCell ⟨g, i, none⟩ u).heap[g]? = some (.cells cs' t (0, 0)) := e ▸ blk_set h i u
theorem below_drew1 {base : Nat} {w W : World} (h : Below base w W) : Below base w W.drew := h.drew
namespace Kd
section
variable {α β : Type} {d : Kd α} {d' : Kd β} {e e' base base' n : Nat} {ok ok' : Nat → Prop} {w W w1 W1 : World} {v u : Value} {xs : List α} {ys : List β} {A : Option Addr} {c : Nat}
end
section
variable {α : Type} {enc : α → Value} {h1 : ∀ x, (enc x).oneCell' = true} {w W : World} {A : Option Addr} {n g : Nat} {xs : List α}
end
end Kd
namespace Kd
section
variable {α : Type} {d : Kd α} {e base g : Nat} {ok : Nat → Prop} {w w1 : World} {v : Value} {xs : List α} {o : Obj}
end
end Kd
section
variable {P : Program} {ops : Array Oper} {rest : List Oper} {o : Oper} {a : Act} {Q : Exit → Act → World → Prop}
theorem box_event {W : World} (hgd : o.guard = none) {N : Tmp} (_hd : o.dst = some N) {cs : Array Value} {t : TypeId}
  (hrun : (execOp a.eval o).run P W = .ok (.value (.pointer (some ⟨W.heap.size, 0, none⟩))) (W.alloc (.cells cs t (0, 0))))
  (h : ∀ g, g = W.heap.size → ∀ w1, w1.heap[g]? = some (.cells cs t (0, 0)) → Below W.heap.size W w1 → wpList P ops Q rest (a.put o.dst (.pointer (some ⟨g, 0, none⟩))) w1) : wpList P ops Q (o :: rest) a W :=
 Kd.event_run hgd hrun (h _ rfl _ (blk_new W _) (below_alloc (Below.refl _ _) _))
end
namespace Kd
section
variable {α : Type} {enc : α → Value} {h1 : ∀ x, (enc x).oneCell' = true} {e base g n cap : Nat} {ok : Nat → Prop} {W : World} {xs : List α}
theorem R_celln (d : α) (h : (scalar enc h1).R e W base ok (.slice (some ⟨g, 0, none⟩) n cap) xs) (i : Int) (h0 : 0 ≤ i) (hi : i < n) : W.cell? ⟨g, i.toNat, none⟩ = some (enc (rdOf d xs i)) ∧ W.frozen? ⟨g, i.toNat, none⟩ = false := by
 obtain ⟨rfl, _⟩ := R_reads' h
 exact R_cell d h i h0 hi
end
end Kd
section
variable {P : Program} {ops : Array Oper} {rest : List Oper} {o : Oper} {a : Act} {Q : Exit → Act → World → Prop}
theorem store_event {W w1 : World} (hgd : o.guard = none) {t : TypeId} {p : Tmp} {v : Operand} (_ho : o.op = .store t (.tmp p) v) (hN : o.dst = none)
  (hrun : (execOp a.eval o).run P W = .ok .skip w1) (h : ∀ w', w' = w1 → wpList P ops Q rest a w') : wpList P ops Q (o :: rest) a W := by
 refine wpList_plain hgd fun K hK => ?_
 unfold Oper.wp
 rw [hrun]
 show K (a.put o.dst undef) w1
 rw [hN]
 exact hK _ _ (h _ rfl)
end
namespace Kd
section
variable {α : Type} {enc : α → Value} {h1 : ∀ x, (enc x).oneCell' = true} {e base g n cap : Nat} {ok : Nat → Prop} {W : World} {xs : List α}
theorem R_putg (h : (scalar enc h1).R e W base ok (.slice (some ⟨g, 0, none⟩) n cap) xs) (i : Int) (x : α) : (scalar enc h1).R e (W.setCell ⟨g, i.toNat, none⟩ (enc x)) base ok (.slice (some ⟨g, 0, none⟩) n cap) (xs.set i.toNat x) ∧ W.grownBy (W.setCell ⟨g, i.toNat, none⟩ (enc x)) (some g) := by
 obtain ⟨rfl, _⟩ := R_reads' h
 exact R_put h i x
end
end Kd
section
variable {P : Program} {ops : Array Oper} {rest : List Oper} {o : Oper} {a : Act} {Q : Exit → Act → World → Prop} {W : World}
theorem gate_dst {N : Tmp} (_hN : o.dst = some N) (h : wpList P ops Q (o :: rest) a W) : wpList P ops Q (o :: rest) a W := h
theorem gate_store {t : TypeId} {p : Tmp} {v : Operand} (_ho : o.op = .store t (.tmp p) v) (h : wpList P ops Q (o :: rest) a W) : wpList P ops Q (o :: rest) a W := h
end
section
variable {P : Program} {ops : Array Oper} {o : Oper} {a : Act} {Q : Exit → Act → World → Prop} {Kc : Act → World → Prop}
theorem event_step {W w1 : World} {v : Value} (hw : Region.wanted o (yielded ops a.tmps) = true) (hrun : (execOp a.eval o).run P W = .ok (.value v) w1) (h : Kc (a.put o.dst v) w1) : if Region.wanted o (yielded ops a.tmps) = true then Oper.wp P o a W Kc Q else Kc (a.put o.dst undef) W := by
 rw [if_pos hw]
 unfold Oper.wp
 rw [hrun]
 exact h
theorem box_step {W : World} (hw : Region.wanted o (yielded ops a.tmps) = true) {N : Tmp} (_hd : o.dst = some N) {cs : Array Value} {t : TypeId}
  (hrun : (execOp a.eval o).run P W = .ok (.value (.pointer (some ⟨W.heap.size, 0, none⟩))) (W.alloc (.cells cs t (0, 0))))
  (h : ∀ g, g = W.heap.size → ∀ w1, w1.heap[g]? = some (.cells cs t (0, 0)) → Below W.heap.size W w1 → Kc (a.put o.dst (.pointer (some ⟨g, 0, none⟩))) w1) : if Region.wanted o (yielded ops a.tmps) = true then Oper.wp P o a W Kc Q else Kc (a.put o.dst undef) W :=
 event_step hw hrun (h _ rfl _ (blk_new W _) (below_alloc (Below.refl _ _) _))
namespace Kd
variable {α : Type}
theorem R_lit_step (d : Kd α) {w0 W : World} (base e : Nat) (hw : Region.wanted o (yielded ops a.tmps) = true) {N : Tmp} (_hd : o.dst = some N) {xs : List α} {inner : List Value} {ok okp : Nat → Prop}
  (hrun : (execOp a.eval o).run P W = .ok (.value (.slice (some ⟨W.heap.size, 0, none⟩) xs.length xs.length)) (W.alloc (.cells inner.toArray e)))
  (hrep : Reps (d.M W base okp) d.sz xs inner) (hok : ∀ k, okp k → ok k) (hfresh : ok W.heap.size) (HB : Below base w0 W) (hbase : base ≤ W.heap.size) (hm : xs.length ≤ 9223372036854775807)
  (h : ∀ v1 w1, d.R e w1 base ok v1 xs → Below base w0 w1 → W.grownBy w1 none → (∃ b, v1.ownBlock = some b ∧ W.heap.size ≤ b) → Kc (a.put o.dst v1) w1) : if Region.wanted o (yielded ops a.tmps) = true then Oper.wp P o a W Kc Q else Kc (a.put o.dst undef) W := by
 refine event_step hw hrun (h _ _ ⟨fun k hk => ?_, inner, ?_, ?_⟩ (HB.alloc hbase _) (World.grownBy_alloc W _ none) ⟨W.heap.size, by simp [Value.ownBlock], Nat.le_refl _⟩)
 ·have : W.heap.size = k := by simpa [Value.ownBlock] using hk
  subst this
  exact hfresh
 ·have h2 := World.ownsRow_lit (base := base) (e := e) (size := d.sz) W inner.toArray xs.length hbase (by simpa [maxLen] using hm) (by simpa using hrep.1)
  simpa using h2
 ·refine hrep.imp_ (fun p c hp => d.M_mono (fun k hk => ⟨hok k hk.1, fun he => ?_⟩) (M_below (d.M_bound hp) (below_alloc (Below.refl _ _) _)))
  have h3 : k = W.heap.size := by simpa [Value.ownBlock] using he
  have := hk.2.2.1
  omega
theorem R_append_rows_step (d : Kd α) {Rr : α → List Value → Prop} {w0 W : World} (base : Nat) (hw : Region.wanted o (yielded ops a.tmps) = true) (s x : Operand) (t e : TypeId) (z : Value) (bytes : Nat)
  (ho : o.op = .call { callee := .builtin .append, args := #[s, x], argTypes := #[t, t] })
  (ht : P.underlying t = some (.slice e)) (hinfo : (P.info? e).map (fun i => (i.zero, i.size, i.bytes)) = some (some z, d.sz, bytes)) (hz : z.cells.size = d.sz) (hs0 : 0 < d.sz) (hb0 : 0 < bytes)
  (v : Value) (xs ys : List α) (A : Option Addr) (m c : Nat) (ok okp : Nat → Prop) (hs : a.eval s = v) (hx : a.eval x = .slice A m c)
  (HO : d.R e W base ok v xs) (HR : ReadsRow Rr d.sz W A m ys) (hKM : ∀ x cs, Rr x cs → d.M W base okp x cs) (hokp : ∀ k, okp k → ok k ∧ some k ≠ v.ownBlock) (hfresh : ∀ k, W.heap.size ≤ k → ok k)
  (HB : Below base w0 W) (hbase : base ≤ W.heap.size) (hl : (xs.length + m) * bytes ≤ 140737488355328)
  (h : ∀ v1 w1, d.R e w1 base ok v1 (xs ++ ys) → Below base w0 w1 → W.grownBy w1 v.ownBlock → (v1.ownBlock = v.ownBlock ∨ ∃ b, v1.ownBlock = some b ∧ W.heap.size ≤ b) → Kc (a.put o.dst v1) w1) :
  if Region.wanted o (yielded ops a.tmps) = true then Oper.wp P o a W Kc Q else Kc (a.put o.dst undef) W := by
 obtain ⟨i0, hi, hzz⟩ := Option.map_eq_some_iff.1 hinfo
 simp only [Prod.mk.injEq] at hzz
 obtain ⟨hz0, hz1, hz2⟩ := hzz
 have hm : ys.length = m := HR.1
 have hlen : xs.length + m ≤ 140737488355328 := Nat.le_trans (Nat.le_mul_of_pos_right _ hb0) hl
 obtain ⟨hok, inner, hown, hr⟩ := HO
 have hrun : ∃ v1 w1, (Builtin.append_ #[t, t] o.type #[v, .slice A m c]).run P W = .ok v1 w1 ∧ d.R e w1 base ok v1 (xs ++ ys) ∧ W.grownBy w1 v.ownBlock ∧ (v1.ownBlock = v.ownBlock ∨ ∃ b, v1.ownBlock = some b ∧ W.heap.size ≤ b) := by
  rcases A with _ | ad
  ·have h0 : m = 0 := by
    rcases Nat.eq_zero_or_pos m with h0 | h0
    ·exact h0
    ·obtain ⟨ad, h, _⟩ := HR.2.2 h0
     cases h
   subst h0
   obtain rfl : ys = [] := List.eq_nil_of_length_eq_zero hm
   refine ⟨v, W, ?_, by rw [List.append_nil]; exact ⟨hok, inner, hown, hr⟩, World.grownBy.refl W _, .inl rfl⟩
   rcases hown.2 with ⟨rfl, hn⟩ | ⟨g, cap, cur, rfl, _, _, hnc, _⟩
   ·simp [Builtin.append_, run_underlying ht, sizeOf, typeInfo, hi, Builtin.lenOf, Builtin.firstCells]
   ·simp [Builtin.append_, run_underlying ht, sizeOf, typeInfo, hi, Builtin.lenOf, Builtin.firstCells, hnc, storeCells]
  ·obtain ⟨news, hnr, hnc⟩ := ReadsRow.inner_ HR
   have hnM : Reps (d.M W base okp) d.sz ys news := hnr.imp_ (fun p c hp => hKM p c hp)
   have hone : ∀ u ∈ news, u.oneCell' = true := by
    intro u hu
    obtain ⟨q, hq, rfl⟩ := List.mem_iff_getElem.1 hu
    have hql : q / d.sz < ys.length := by
     rw [Nat.div_lt_iff_lt_mul hs0]
     rw [← hnM.1]
     exact hq
    have hc := hnM.2 (q / d.sz) _ (List.getElem?_eq_getElem hql)
    refine d.K_one (d.K_of_M hc) _ ?_
    rw [List.mem_iff_getElem?]
    refine ⟨q % d.sz, ?_⟩
    rw [List.getElem?_take, if_pos (Nat.mod_lt _ hs0), List.getElem?_drop, Nat.mul_comm, Nat.div_add_mod, List.getElem?_eq_getElem hq]
   obtain ⟨v1, w1, hrun, h2, hg, _, hat⟩ := run_append_own_at (P := P) W base t o.type e i0 z d.sz bytes ht hi hz0 hz1 hz2 hz hs0 v xs.length inner hown ad m c news (by rw [hnM.1, hm]) hnc hone (by simp only [maxLen]; omega) hl hbase
   have hat' : v1.ownBlock = v.ownBlock ∨ ∃ b, v1.ownBlock = some b ∧ W.heap.size ≤ b := by
    rcases hat with hat | hat
    ·exact .inl hat
    ·exact .inr ⟨_, hat, Nat.le_refl _⟩
   have hne : ∀ k, some k ≠ v.ownBlock → k < W.heap.size → some k ≠ v1.ownBlock := by
    intro k hk hlt
    rcases hat' with hat | ⟨b, hb, hle⟩
    ·rw [hat]; exact hk
    ·rw [hb]
     intro he
     injection he with he
     omega
   have step : ∀ {q : α} {c : List Value} {o : Nat → Prop}, d.M W base o q c → (∀ k, o k → ok k ∧ some k ≠ v.ownBlock) → d.M w1 base (fun k => ok k ∧ some k ≠ v1.ownBlock) q c := by
    intro q c o hq ho
    have h1 := d.M_move (w1 := w1) (fun k hk => hg.block k hk.2.2.1 (ho k hk.1).2) (d.M_bound hq)
    exact d.M_mono (fun k hk => ⟨(ho k hk.1).1, hne k (ho k hk.1).2 hk.2.2.1⟩) h1
   refine ⟨v1, w1, hrun, ⟨fun k hk => ?_, inner ++ news, by rw [List.length_append, hm]; exact h2, reps_append (hr.imp_ (fun _ _ hq => step hq (fun _ hk => hk))) (hnM.imp_ (fun _ _ hq => step hq hokp))⟩, hg, hat'⟩
   rcases hat' with hat | ⟨b, hb, hle⟩
   ·exact hok k (hat ▸ hk)
   ·rw [hb] at hk
    injection hk with hk
    exact hfresh k (by omega)
 obtain ⟨v1, w1, hr1, h1, hg, hat⟩ := hrun
 rw [if_pos hw]
 unfold Oper.wp execOp
 simp only [ho, resolve, invoke, builtin, Sem.run_bind, Sem.run_pure, Result.andThen_ok, List.map_toArray, List.map_cons, List.map_nil, hs, hx, hr1]
 exact h v1 w1 h1 (HB.grown hg hbase (own_base hown)) hg hat
end Kd
end
inductive Vals (P : Program) (tmps : Array Value) (w : World) : List ResultVar → List Value → Prop where
 | nil : Vals P tmps w [] []
 | tmp {u : Tmp} {rs : List ResultVar} {vs : List Value} (h : Vals P tmps w rs vs) : Vals P tmps w (.tmp u :: rs) (tmps.getD u undef :: vs)
 | cell {p : Tmp} {ty : TypeId} {rs : List ResultVar} {vs : List Value} (g : Nat) (t : TypeId) (cs : Array Value) (fr : Nat × Nat) (d : TypeDesc)
   (hp : tmps.getD p undef = .pointer (some ⟨g, 0, none⟩)) (hg : w.heap[g]? = some (.cells cs t fr))
   (hu : P.underlying ty = some d) (hd : (match d with | .struct _ | .array _ _ => true | _ => false) = true) (hi : (P.info? ty).map (·.size) = some cs.size)
   (h : Vals P tmps w rs vs) : Vals P tmps w (.cell p ty :: rs) (.agg cs :: vs)
section
variable {P : Program} {tmps : Array Value} {w : World}
end
namespace Kd
section
variable {P : Program} {α : Type}
end
section
variable {P : Program} {ops : Array Oper} {rest : List Oper} {o : Oper} {a : Act} {Q : Exit → Act → World → Prop} {Kc : Act → World → Prop} {α : Type}
end
end Kd
end Go.Proofs.YtopfjjdkffdjpaaW.PrintWords
end
section
-- PRINTED BY print.sh 35421559b90ae4d0a3588c463048766b98c2df88dd9212a6774a882060cdf62d: not written by this session
namespace Go.Proofs.YtopfjjdkffdjpaaW.PrintLast
open Go.Proofs.YtopfjjdkffdjpaaW.PrintWords (Aside0)
def needsOf (md : Region.Mode) (o : Oper) : List Nat := (o.after.toList.filter (fun e => Region.binds md e)).map (fun e => e.on)
def clashOf (md : Region.Mode) (ops : Array Oper) (i : Nat) (oi : Oper) : List Nat := (List.range ops.size).filter fun j => !(j == i) && match ops[j]? with
 | some oj => !(oj.after.any (fun e => Region.binds md e && e.on == i) || oi.apart ops oj)
 | none => false
def rtab (md : Region.Mode) (ops : Array Oper) : Bool × List (List Nat × List Nat) := (Region.noSelect ops, (List.range ops.size).map fun i => match ops[i]? with
 | some o => (needsOf md o, clashOf md ops i o)
 | none => ([], []))
def readyAt (T : List (List Nat × List Nat)) (l : List Bool) (i : Nat) : Bool := !l.getD i true && match T[i]? with
 | some r => r.1.all (fun j => l.getD j false)
 | none => false
def readyT (T : List (List Nat × List Nat)) (l : List Bool) : List Nat := (List.range T.length).filter (readyAt T l)
def freeT (T : List (List Nat × List Nat)) (l : List Bool) (i : Nat) : Bool := match T[i]? with
 | some r => r.2.all (fun j => l.getD j true)
 | none => false
def closedT (T : List (List Nat × List Nat)) (l : List Bool) : Bool := (List.range T.length).all fun j => !l.getD j false || match T[j]? with
 | some r => r.1.all (fun k => l.getD k false)
 | none => true
def reachT (T : List (List Nat × List Nat)) (i : Nat) : Nat → Nat → Bool
 | 0, _ => false
 | fuel + 1, d => match T[d]? with
  | some r => r.1.any fun j => j == i || reachT T i fuel j
  | none => false
def lastT (T : List (List Nat × List Nat)) (l : List Bool) (ds : List Nat) (i : Nat) : Bool := ds.all fun d => l.getD d true || reachT T i T.length d
section
variable {md : Region.Mode} {ops : Array Oper} {T : Bool × List (List Nat × List Nat)} {l l' li lj lk : Array Bool} {ds : List Nat} {i j k : Nat}
theorem gd (l : Array Bool) (j : Nat) (b : Bool) : l.getD j b = l.toList.getD j b := by simp [Array.getD_eq_getD_getElem?, List.getD_eq_getElem?_getD]
theorem needs_all (o : Oper) (p : Nat → Bool) : o.after.all (fun e => !Region.binds md e || p e.on) = (needsOf md o).all p := by
 unfold needsOf
 rw [← Array.all_toList]
 induction o.after.toList with
 | nil => rfl
 | cons e r ih =>
  rw [List.all_cons, ih, List.filter_cons]
  cases h : Region.binds md e <;> simp
theorem needs_any (o : Oper) (p : Nat → Bool) : o.after.any (fun e => Region.binds md e && p e.on) = (needsOf md o).any p := by
 unfold needsOf
 rw [← Array.any_toList]
 induction o.after.toList with
 | nil => rfl
 | cons e r ih =>
  rw [List.any_cons, ih, List.filter_cons]
  cases h : Region.binds md e <;> simp
theorem rtab_length : (rtab md ops).2.length = ops.size := by simp [rtab]
theorem rtab_some {o : Oper} (h : ops[i]? = some o) : (rtab md ops).2[i]? = some (needsOf md o, clashOf md ops i o) := by
 have hi := (Array.getElem?_eq_some_iff.1 h).1
 unfold rtab
 rw [List.getElem?_map, List.getElem?_range hi, Option.map_some, h]
theorem rtab_none (h : ops[i]? = none) : (rtab md ops).2[i]? = none := by
 have hi : ops.size ≤ i := Array.getElem?_eq_none_iff.1 h
 exact List.getElem?_eq_none (by rw [rtab_length]; exact hi)
theorem readyAt_eq : readyAt (rtab md ops).2 l.toList i = (!l.getD i true && ((ops[i]?).map (·.after.all fun e => !Region.binds md e || l.getD e.on false)).getD false) := by
 unfold readyAt
 rw [gd]
 cases h : ops[i]? with
 | none => rw [rtab_none h]; rfl
 | some o =>
  rw [rtab_some h]
  simp only [Option.map_some, Option.getD_some]
  rw [← needs_all]
  simp only [gd]
theorem ready_eq : Region.ready md ops l = readyT (rtab md ops).2 l.toList := by
 unfold Region.ready readyT
 rw [rtab_length]
 refine List.filter_congr (fun i _ => ?_)
 rw [readyAt_eq]
theorem free_eq : Region.free md ops l i = freeT (rtab md ops).2 l.toList i := by
 unfold Region.free freeT
 cases h : ops[i]? with
 | none => rw [rtab_none h]
 | some oi =>
  rw [rtab_some h]
  simp only [clashOf]
  rw [List.all_filter]
  congr 1
  funext j
  rw [gd]
  cases hj : ops[j]? with
  | none => cases (j == i) <;> cases (l.toList.getD j true) <;> simp
  | some oj =>
   cases (j == i) <;> cases (l.toList.getD j true) <;> cases (oj.after.any (fun e => Region.binds md e && e.on == i) || oi.apart ops oj) <;> simp_all
theorem closed_eq : Region.closedB md ops l = closedT (rtab md ops).2 l.toList := by
 unfold Region.closedB closedT
 rw [rtab_length]
 congr 1
 funext j
 rw [gd]
 cases h : ops[j]? with
 | none => rw [rtab_none h]
 | some o =>
  rw [rtab_some h]
  simp only
  rw [← needs_all]
  simp only [gd]
theorem reach_eq : ∀ (fuel d : Nat), Region.reachB md ops i fuel d = reachT (rtab md ops).2 i fuel d
 | 0, _ => rfl
 | fuel + 1, d => by
  unfold Region.reachB reachT
  cases h : ops[d]? with
  | none => rw [rtab_none h]
  | some o =>
   rw [rtab_some h]
   simp only
   rw [← needs_any]
   congr 1
   funext e
   rw [reach_eq fuel]
theorem last_eq : Region.lastB md ops l ds i = lastT (rtab md ops).2 l.toList ds i := by
 unfold Region.lastB lastT
 rw [rtab_length]
 congr 1
 funext d
 rw [gd, reach_eq]
theorem readyAt_mem (h : readyAt T.2 l.toList i = true) (hT : rtab md ops = T) : (Region.ready md ops l).contains i = true := by
 subst hT
 rw [ready_eq]
 unfold readyT
 rw [List.contains_iff_mem, List.mem_filter, List.mem_range]
 refine ⟨?_, h⟩
 unfold readyAt at h
 rw [Bool.and_eq_true] at h
 cases hq : (rtab md ops).2[i]? with
 | none => rw [hq] at h; simp at h
 | some r => exact (List.getElem?_eq_some_iff.1 hq).1
theorem set_of (h : (l.toList.set i true == l'.toList) = true) : (l.setIfInBounds i true == l') = true := by
 rw [beq_iff_eq] at h ⊢
 apply Array.ext'
 rw [Array.toList_setIfInBounds]
 exact h
def anyT (T : Bool × List (List Nat × List Nat)) (l l' : List Bool) (i : Nat) : Bool := T.1 && freeT T.2 l i && readyAt T.2 l i && (l.set i true == l')
theorem any_of (hT : rtab md ops = T) (h : anyT T l.toList l'.toList i = true) : anyB md ops l l' i = true := by
 simp only [anyT, Bool.and_eq_true] at h
 obtain ⟨⟨⟨h1, h2⟩, h3⟩, h4⟩ := h
 have h5 := readyAt_mem h3 hT
 have h6 := set_of h4
 subst hT
 simp only [anyB, Bool.and_eq_true]
 exact ⟨⟨⟨h1, by rw [free_eq]; exact h2⟩, h5⟩, h6⟩
def takeT (T : Bool × List (List Nat × List Nat)) (ds : List Nat) (l l' : List Bool) (i : Nat) : Bool := T.1 && freeT T.2 l i && readyAt T.2 l i && closedT T.2 l && lastT T.2 l ds i && (l.set i true == l')
theorem take_of (hT : rtab md ops = T) (h : takeT T ds l.toList l'.toList i = true) : takeB md ops ds l l' i = true := by
 simp only [takeT, Bool.and_eq_true] at h
 obtain ⟨⟨⟨⟨⟨h1, h2⟩, h3⟩, h4⟩, h5⟩, h6⟩ := h
 have h7 := readyAt_mem h3 hT
 have h8 := set_of h6
 subst hT
 simp only [takeB, Bool.and_eq_true]
 exact ⟨⟨⟨⟨⟨h1, by rw [free_eq]; exact h2⟩, h7⟩, by rw [closed_eq]; exact h4⟩, by rw [last_eq]; exact h5⟩, h8⟩
theorem one_of (hT : rtab md ops = T) (h : (readyT T.2 l.toList == [i] && l.toList.set i true == l'.toList) = true) : readyB md ops l l' i = true := by
 simp only [Bool.and_eq_true] at h
 obtain ⟨h1, h2⟩ := h
 subst hT
 simp only [readyB, Bool.and_eq_true]
 exact ⟨by rw [ready_eq]; exact h1, set_of h2⟩
theorem two_of (hT : rtab md ops = T) (h : (readyT T.2 l.toList == [i, j] && l.toList.set i true == li.toList && l.toList.set j true == lj.toList) = true) : (Region.ready md ops l == [i, j] && l.setIfInBounds i true == li && l.setIfInBounds j true == lj) = true := by
 simp only [Bool.and_eq_true] at h ⊢
 obtain ⟨⟨h1, h2⟩, h3⟩ := h
 subst hT
 exact ⟨⟨by rw [ready_eq]; exact h1, set_of h2⟩, set_of h3⟩
theorem three_of (hT : rtab md ops = T) (h : (readyT T.2 l.toList == [i, j, k] && l.toList.set i true == li.toList && l.toList.set j true == lj.toList && l.toList.set k true == lk.toList) = true) :
  (Region.ready md ops l == [i, j, k] && l.setIfInBounds i true == li && l.setIfInBounds j true == lj && l.setIfInBounds k true == lk) = true := by
 simp only [Bool.and_eq_true] at h ⊢
 obtain ⟨⟨⟨h1, h2⟩, h3⟩, h4⟩ := h
 subst hT
 exact ⟨⟨⟨by rw [ready_eq]; exact h1, set_of h2⟩, set_of h3⟩, set_of h4⟩
theorem done_of (hT : rtab md ops = T) (h : (readyT T.2 l.toList == []) = true) : (Region.ready md ops l == []) = true := by
 subst hT
 rw [ready_eq]
 exact h
def upM (B : List Nat) (d : Nat) : List Nat → Nat
 | [] => 0
 | n :: r => (2 ^ n ||| (if n < d then B.getD n 0 else 0)) ||| upM B d r
def waitsOk (T : List (List Nat × List Nat)) (B : List Nat) : Bool := (List.range T.length).all fun d => match T[d]? with
 | some r => (B.getD d 0 ||| upM B d r.1) == upM B d r.1
 | none => false
theorem upM_bit {B : List Nat} {d i : Nat} : ∀ {ns : List Nat}, (upM B d ns).testBit i = true → ∃ n ∈ ns, n = i ∨ (n < d ∧ (B.getD n 0).testBit i = true)
 | [], h => by simp [upM] at h
 | n :: r, h => by
  unfold upM at h
  rw [Nat.testBit_or, Nat.testBit_or, Bool.or_eq_true, Bool.or_eq_true] at h
  rcases h with (h | h) | h
  ·rw [Nat.testBit_two_pow] at h
   exact ⟨n, List.mem_cons_self, .inl (by simpa using h)⟩
  ·by_cases hn : n < d
   ·rw [if_pos hn] at h
    exact ⟨n, List.mem_cons_self, .inr ⟨hn, h⟩⟩
   ·rw [if_neg hn] at h
    simp at h
  ·obtain ⟨m, hm, h2⟩ := upM_bit h
   exact ⟨m, List.mem_cons_of_mem _ hm, h2⟩
theorem reach_bit {T : List (List Nat × List Nat)} {B : List Nat} (hB : waitsOk T B = true) : ∀ (fuel d : Nat), d < fuel → d < T.length → (B.getD d 0).testBit i = true → reachT T i fuel d = true
 | 0, d, h, _, _ => by omega
 | fuel + 1, d, h, hd, hb => by
  have h1 := List.all_eq_true.1 hB d (List.mem_range.2 hd)
  cases hr : T[d]? with
  | none => rw [hr] at h1; simp at h1
  | some r =>
   rw [hr] at h1
   simp only [beq_iff_eq] at h1
   have h2 : (upM B d r.1).testBit i = true := by rw [← h1, Nat.testBit_or, hb, Bool.true_or]
   obtain ⟨n, hn, h3⟩ := upM_bit h2
   unfold reachT
   rw [hr]
   simp only
   rw [List.any_eq_true]
   refine ⟨n, hn, ?_⟩
   rcases h3 with rfl | ⟨h4, h5⟩
   ·simp
   ·rw [reach_bit hB fuel n (by omega) (by omega) h5, Bool.or_true]
def lastW (T : List (List Nat × List Nat)) (B : List Nat) (l : List Bool) (ds : List Nat) (i : Nat) : Bool := ds.all fun d => l.getD d true || (decide (d < T.length) && (B.getD d 0).testBit i)
def takeW (T : Bool × List (List Nat × List Nat)) (B : List Nat) (ds : List Nat) (l l' : List Bool) (i : Nat) : Bool := T.1 && freeT T.2 l i && readyAt T.2 l i && closedT T.2 l && lastW T.2 B l ds i && (l.set i true == l')
theorem take_ofW {B : List Nat} (hT : rtab md ops = T) (hB : waitsOk T.2 B = true) (h : takeW T B ds l.toList l'.toList i = true) : takeB md ops ds l l' i = true := by
 refine take_of hT ?_
 simp only [takeW, takeT, Bool.and_eq_true] at h ⊢
 obtain ⟨⟨⟨⟨⟨h1, h2⟩, h3⟩, h4⟩, h5⟩, h6⟩ := h
 refine ⟨⟨⟨⟨⟨h1, h2⟩, h3⟩, h4⟩, ?_⟩, h6⟩
 unfold lastW at h5
 unfold lastT
 rw [List.all_eq_true] at h5 ⊢
 intro d hd
 have h7 := h5 d hd
 rw [Bool.or_eq_true, Bool.and_eq_true, decide_eq_true_eq] at h7
 rcases h7 with h7 | ⟨h8, h9⟩
 ·rw [h7, Bool.true_or]
 ·rw [reach_bit hB _ d h8 h8 h9, Bool.or_true]
theorem with_tabW {P : Program} {Q : Exit → Act → World → Prop} {S : World → Prop} {n : Nat} {a : Act} {w : World} {B : List Nat} (hT : rtab md ops = T) (hB : waitsOk T.2 B = true) (h : Aside0 (rtab md ops = T) → Aside0 (waitsOk T.2 B = true) → wpAnyLast P md ops Q S ds n l a w) : wpAnyLast P md ops Q S ds n l a w := h ⟨hT⟩ ⟨hB⟩
end
def opsIn : Code → Nat → Option (Array Oper)
 | .region id ops _, k => if id == k then some ops else none
 | .seq a b, k => match opsIn a k with
  | some o => some o
  | none => opsIn b k
 | .cond _ a b, k => match opsIn a k with
  | some o => some o
  | none => opsIn b k
 | .block _ c, k => opsIn c k
 | .loop c, k => opsIn c k
 | .scope c, k => opsIn c k
 | .rangeFunc _ _ a b, k => match opsIn a k with
  | some o => some o
  | none => opsIn b k
 | _, _ => none
def opsOf (f : Func) (k : Nat) : Array Oper := ((f.body.bind fun c => opsIn c k)).getD #[]
end Go.Proofs.YtopfjjdkffdjpaaW.PrintLast
end
section
-- PRINTED BY print.sh 35421559b90ae4d0a3588c463048766b98c2df88dd9212a6774a882060cdf62d: not written by this session
namespace Go.Proofs.YtopfjjdkffdjpaaW.PrintWords
open Go.RowKit
namespace Kd
section
variable {α : Type} {d : Kd α} {e base g o n cap : Nat} {ok okp : Nat → Prop} {w W : World} {v : Value} {xs : List α}
end
section
variable {α : Type} {enc : α → Value} {h1 : ∀ x, (enc x).oneCell' = true} {e base g o n cap : Nat} {ok : Nat → Prop} {W : World} {xs : List α}
end
end Kd
end Go.Proofs.YtopfjjdkffdjpaaW.PrintWords
end
section
-- PRINTED BY print.sh 35421559b90ae4d0a3588c463048766b98c2df88dd9212a6774a882060cdf62d: not written by this session
namespace Go.Proofs.YtopfjjdkffdjpaaW.PrintWords
open Go.RowKit
namespace Kd
def tag {α : Type} (f : Nat → Nat) (d : Kd α) : Kd (α × Nat) where
 sz := d.sz
 E := d.E
 K := fun w x cs => d.K w x.1 cs
 M := fun w base ok x cs => d.M w base (fun k => ok k ∧ f k = x.2) x.1 cs
 K_len := fun h => d.K_len h
 K_one := fun h => d.K_one h
 K_below := fun hb h => d.K_below hb h
 K_of_M := fun h => d.K_of_M h
 M_mono := fun hok h => d.M_mono (fun k hk => ⟨hok k hk.1, hk.2⟩) h
 M_bound := fun h => d.M_mono (fun _ hk => ⟨⟨hk.1.1, hk.2⟩, hk.1.2⟩) (d.M_bound h)
 M_move := fun hm h => d.M_move (fun k hk => hm k hk.1) h
 M_lower := fun hb h => d.M_lower hb h
def raw (sz : Nat) : Kd (List Value) where
 sz := sz
 E := []
 K := fun _ x cs => cs = x ∧ cs.length = sz ∧ ∀ u ∈ cs, u.oneCell' = true
 M := fun _ _ _ x cs => cs = x ∧ cs.length = sz ∧ ∀ u ∈ cs, u.oneCell' = true
 K_len := fun h => h.2.1
 K_one := fun h => h.2.2
 K_below := fun _ h => h
 K_of_M := fun h => h
 M_mono := fun _ h => h
 M_bound := fun h => h
 M_move := fun _ h => h
 M_lower := fun _ h => h
def S {α : Type} (d : Kd α) (e : Nat) (w : World) (base : Nat) (ok : Nat → Prop) (v : Value) (xs : List α) : Prop := ∃ f, (tag f d).R e w base ok v xs.zipIdx
section
variable {α β : Type} {d : Kd α} {d' : Kd β} {e e' : Nat} {w w1 W : World} {base b : Nat} {ok ok' okv oku : Nat → Prop} {u v : Value} {xs : List α} {ys : List β}
theorem S_nil (d : Kd α) (e : Nat) (w : World) (base : Nat) (ok : Nat → Prop) : S d e w base ok (.slice none 0 0) [] := ⟨fun _ => 0, R_nil _ _ _ _ _⟩
end
section
variable {α β : Type} {d : Kd α} {d' : Kd β} {e e' g : Nat} {w w1 W : World} {base b : Nat} {ok ok' okv oku : Nat → Prop} {u v : Value} {xs : List α} {ys : List β}
end
section
open Classical in
variable {P : Program} {ops : Array Oper} {rest : List Oper} {o : Oper} {a : Act} {Q : Exit → Act → World → Prop} {Kc : Act → World → Prop} {α : Type}
end
def gap {α : Type} (f : Nat → Nat) (d : Kd α) (i : Nat) (c : List Value) : Kd (α × Nat) where
 sz := d.sz
 E := d.E
 K := fun w x cs => (x.2 = i → cs = c ∧ cs.length = d.sz ∧ ∀ u ∈ cs, u.oneCell' = true) ∧ (x.2 ≠ i → d.K w x.1 cs)
 M := fun w base ok x cs => (x.2 = i → cs = c ∧ cs.length = d.sz ∧ ∀ u ∈ cs, u.oneCell' = true) ∧ (x.2 ≠ i → d.M w base (fun k => ok k ∧ f k = x.2) x.1 cs)
 K_len := fun {w x cs} h => by
  by_cases hx : x.2 = i
  ·exact (h.1 hx).2.1
  ·exact d.K_len (h.2 hx)
 K_one := fun {w x cs} h => by
  by_cases hx : x.2 = i
  ·exact (h.1 hx).2.2
  ·exact d.K_one (h.2 hx)
 K_below := fun hb h => ⟨h.1, fun hx => d.K_below hb (h.2 hx)⟩
 K_of_M := fun h => ⟨h.1, fun hx => d.K_of_M (h.2 hx)⟩
 M_mono := fun hok h => ⟨h.1, fun hx => d.M_mono (fun k hk => ⟨hok k hk.1, hk.2⟩) (h.2 hx)⟩
 M_bound := fun h => ⟨h.1, fun hx => d.M_mono (fun _ hk => ⟨⟨hk.1.1, hk.2⟩, hk.1.2⟩) (d.M_bound (h.2 hx))⟩
 M_move := fun hm h => ⟨h.1, fun hx => d.M_move (fun k hk => hm k hk.1) (h.2 hx)⟩
 M_lower := fun hb h => ⟨h.1, fun hx => d.M_lower hb (h.2 hx)⟩
def H {α : Type} (d : Kd α) (e : Nat) (w : World) (base : Nat) (ok : Nat → Prop) (v : Value) (xs : List α) (i : Int) (oki : Nat → Prop) (c : List Value) : Prop :=
 (∀ k, oki k → ok k) ∧ ∃ f, (gap f d i.toNat c).R e w base (fun k => ok k ∧ ¬ oki k) v xs.zipIdx
section
variable {α β : Type} {d : Kd α} {e e' g n cap : Nat} {w w1 W : World} {base : Nat} {ok ok' oki okp : Nat → Prop} {u v : Value} {xs : List α} {i : Int} {c : List Value}
open Classical in
end
section
variable {P : Program} {ops : Array Oper} {rest : List Oper} {o : Oper} {a : Act} {Q : Exit → Act → World → Prop} {α : Type}
end
end Kd
end Go.Proofs.YtopfjjdkffdjpaaW.PrintWords
end
section
-- PRINTED BY print.sh 35421559b90ae4d0a3588c463048766b98c2df88dd9212a6774a882060cdf62d: not written by this session
namespace Go.Proofs.YtopfjjdkffdjpaaW.PrintWords
open Go.RowKit
namespace Kd
section
variable {α : Type} {n : Nat} {d : Kd α} {hs : 0 < d.sz} {w : World} {base : Nat} {ok : Nat → Prop} {xs : List α} {cs : List Value}
end
section
variable {α : Type} {n : Nat} {enc : α → Value} {h1 : ∀ x, (enc x).oneCell' = true} {hs : 0 < (scalar enc h1).sz} {w : World} {base : Nat} {ok : Nat → Prop} {xs : List α} {cs : List Value}
end
end Kd
end Go.Proofs.YtopfjjdkffdjpaaW.PrintWords
end
section
-- PRINTED BY print.sh 35421559b90ae4d0a3588c463048766b98c2df88dd9212a6774a882060cdf62d: not written by this session
namespace Go.Proofs.YtopfjjdkffdjpaaW.PrintWords
open Go.RowKit
section
variable {P : Program}
end
namespace Kd
section
variable {P : Program} {ops : Array Oper} {rest : List Oper} {o : Oper} {a : Act} {Q : Exit → Act → World → Prop} {Kc : Act → World → Prop} {α : Type}
end
section
variable {α : Type} {d : Kd α} {e : Nat} {w : World} {base : Nat} {ok : Nat → Prop} {v : Value} {xs : List α}
end
section
variable {P : Program} {ops : Array Oper} {rest : List Oper} {o : Oper} {a : Act} {Q : Exit → Act → World → Prop} {Kc : Act → World → Prop} {α : Type}
end
end Kd
end Go.Proofs.YtopfjjdkffdjpaaW.PrintWords
end
section
-- PRINTED BY print.sh 35421559b90ae4d0a3588c463048766b98c2df88dd9212a6774a882060cdf62d: not written by this session
namespace Go.Proofs.YtopfjjdkffdjpaaW.PrintWords
open Go.RowKit
namespace Kd
structure Heap {α : Type} (d : Kd α) : Prop where
 K : ∀ {w w1 : World} {x : α} {cs : List Value}, (∀ k, k < w.heap.size → w1.heap[k]? = w.heap[k]?) → d.K w x cs → d.K w1 x cs
theorem cell_heap {w w1 : World} (hb : ∀ k, k < w.heap.size → w1.heap[k]? = w.heap[k]?) {a : Addr} {v : Value} (h : w.cell? a = some v) : w1.cell? a = some v := by
 have := hb a.block (World.block_lt_of_cell? w a h)
 simpa [World.cell?, this] using h
theorem Heap.C {α : Type} {d : Kd α} (hd : Heap d) {w w1 : World} {A : Option Addr} {n : Nat} {xs : List α} (hb : ∀ k, k < w.heap.size → w1.heap[k]? = w.heap[k]?) (h : d.C w A n xs) : d.C w1 A n xs :=
 ⟨h.1, h.2.1, fun hn => by
  obtain ⟨ad, e, hc⟩ := h.2.2 hn
  refine ⟨ad, e, fun j p hj => ?_⟩
  obtain ⟨c, hs, hr, hcell⟩ := hc j p hj
  exact ⟨c, hs, hd.K hb hr, fun i u hu => cell_heap hb (hcell i u hu)⟩⟩
section
variable {α : Type} {d : Kd α} {e base g n c : Nat} {ok : Nat → Prop} {w w0 W : World} {A : Option Addr} {xs : List α}
end
end Kd
end Go.Proofs.YtopfjjdkffdjpaaW.PrintWords
end
section
-- PRINTED BY print.sh 35421559b90ae4d0a3588c463048766b98c2df88dd9212a6774a882060cdf62d: not written by this session
namespace Go.Proofs.YtopfjjdkffdjpaaW.PrintWords
open Go.RowKit
def Kept (w W : World) (S : Nat → Prop) : Prop := w.heap.size ≤ W.heap.size ∧ ∀ i, i < w.heap.size → ¬ S i → W.heap[i]? = w.heap[i]?
section
variable {w W W2 : World} {S S2 S' : Nat → Prop}
theorem Kept.refl (w : World) (S : Nat → Prop) : Kept w w S := ⟨Nat.le_refl _, fun _ _ _ => rfl⟩
theorem Kept.of_below (h : Below w.heap.size w W) (S : Nat → Prop) : Kept w W S := ⟨h.size, fun i hi _ => h.block i hi⟩
theorem Kept.mono (h : Kept w W S) (hs : ∀ k, S k → S' k) : Kept w W S' := ⟨h.1, fun i hi hn => h.2 i hi (fun hk => hn (hs i hk))⟩
theorem Kept.then_ (h : Kept w W S) (k : Kept W W2 S2) (hs : ∀ k, S2 k → S k ∨ w.heap.size ≤ k) : Kept w W2 S :=
 ⟨Nat.le_trans h.1 k.1, fun i hi hn => (k.2 i (Nat.lt_of_lt_of_le hi h.1) (fun h2 => (hs i h2).elim hn (fun h3 => by omega))).trans (h.2 i hi hn)⟩
theorem Kept.below (h : Kept w W S) (hb : Below W.heap.size W W2) : Kept w W2 S := h.then_ (Kept.of_below hb (fun _ => False)) (fun _ hk => hk.elim)
theorem Kept.alloc (h : Kept w W S) (o : Obj) : Kept w (W.alloc o) S := h.below (below_alloc (Below.refl _ _) o)
theorem Kept.drew (h : Kept w W S) : Kept w W.drew S := h
theorem Kept.drewN (h : Kept w W S) (m : Nat) : Kept w (W.drewN m) S := h
theorem Kept.setCell (h : Kept w W S) {p : Addr} (hp : S p.block ∨ w.heap.size ≤ p.block) (u : Value) : Kept w (W.setCell p u) S :=
 h.then_ (S2 := fun k => k = p.block) ⟨by simp [World.setCell], fun i _ hn => Below.heap_setCell W p u i hn⟩ (fun k hk => by rw [hk]; exact hp)
theorem Kept.keep {g : Nat} (h : KeepBut w W g none) (k : Kept W W2 S2) (hs : ∀ k, S2 k → w.heap.size ≤ k) : KeepBut w W2 g none :=
 ⟨Nat.le_trans h.1 k.1, fun i hi hg hr => (k.2 i (Nat.lt_of_lt_of_le hi h.1) (fun h2 => by have := hs i h2; omega)).trans (h.2 i hi hg hr)⟩
end
namespace Kd
section
variable {α : Type} {d : Kd α} {e base n c : Nat} {ok oki S S2 : Nat → Prop} {w w0 W W1 W2 : World} {v : Value} {A : Option Addr} {xs : List α} {i : Int} {cs : List Value}
end
end Kd
end Go.Proofs.YtopfjjdkffdjpaaW.PrintWords
end
section
-- PRINTED BY print.sh 35421559b90ae4d0a3588c463048766b98c2df88dd9212a6774a882060cdf62d: not written by this session
namespace Go.Proofs.YtopfjjdkffdjpaaW.PrintWords
open Go.RowKit
def Foot (P : World → Prop) (W : World) (ok : Nat → Prop) : Prop := ∀ W' : World, (∀ k, ok k → k < W.heap.size → W'.heap[k]? = W.heap[k]?) → P W'
theorem heap_lt {W W1 : World} {k : Nat} (h : W1.heap[k]? = W.heap[k]?) (hlt : k < W.heap.size) : k < W1.heap.size := by
 rw [Array.getElem?_eq_getElem hlt] at h
 exact (Array.getElem?_eq_some_iff.1 h).1
namespace Foot
variable {P Q : World → Prop} {W W1 : World} {ok ok' : Nat → Prop}
theorem now (h : Foot P W ok) : P W := h W (fun _ _ _ => rfl)
theorem mono (h : Foot P W ok) (hok : ∀ k, ok k → ok' k) : Foot P W ok' := fun W' hW => h W' (fun k hk hlt => hW k (hok k hk) hlt)
theorem step (h : Foot P W ok) (hm : ∀ k, ok k → k < W.heap.size → W1.heap[k]? = W.heap[k]?) : Foot P W1 ok := fun W' hW => h W' (fun k hk hlt => (hW k hk (heap_lt (hm k hk hlt) hlt)).trans (hm k hk hlt))
theorem imp (h : Foot P W ok) (hi : ∀ W', P W' → Q W') : Foot Q W ok := fun W' hW => hi W' (h W' hW)
end Foot
namespace Kd
def F {α : Type} (d : Kd α) (W : World) (ok : Nat → Prop) (A : Option Addr) (n : Nat) (xs : List α) : Prop := Foot (fun W => d.C W A n xs) W ok
def FK {α : Type} (d : Kd α) (W : World) (ok : Nat → Prop) (x : α) (c : List Value) : Prop := Foot (fun W => d.K W x c) W ok
section
variable {α β : Type} {d : Kd α} {e base n n' cc g N : Nat} {ok ok' okp S : Nat → Prop} {w w0 w1 W W1 : World} {A A' : Option Addr} {u v v1 : Value} {xs : List α} {xs' : List β} {d' : Kd β} {x : α} {c : List Value}
theorem F_nil (d : Kd α) (W : World) (ok : Nat → Prop) : F d W ok none ([] : List α).length [] := fun W' _ => C_nil d W'
theorem FK_of_M (h : d.M W base ok x c) : FK d W ok x c := fun _ hW => d.K_of_M (M_step h hW)
end
end Kd
end Go.Proofs.YtopfjjdkffdjpaaW.PrintWords
end
section
-- PRINTED BY print.sh 35421559b90ae4d0a3588c463048766b98c2df88dd9212a6774a882060cdf62d: not written by this session
namespace Go.Proofs.YtopfjjdkffdjpaaW.PrintWords
open Go.RowKit
namespace Kd
def chunks (sz : Nat) (n : Nat) (inner : List Value) : List (List Value) := (List.range n).map fun j => (inner.drop (j * sz)).take sz
theorem chunks_length (sz n : Nat) (inner : List Value) : (chunks sz n inner).length = n := by simp [chunks]
theorem chunks_at {sz n : Nat} {inner : List Value} {j : Nat} (hj : j < n) : (chunks sz n inner)[j]? = some ((inner.drop (j * sz)).take sz) := by simp [chunks, hj]
theorem chunks_get {sz n : Nat} {inner : List Value} {j : Nat} {c : List Value} (h : (chunks sz n inner)[j]? = some c) : c = (inner.drop (j * sz)).take sz := by
 have hj : j < n := by have := (List.getElem?_eq_some_iff.1 h).1; rwa [chunks_length] at this
 rw [chunks_at hj] at h
 injection h with h
 exact h.symm
theorem reps_raw {α : Type} {Rr : α → List Value → Prop} {sz : Nat} {xs : List α} {inner : List Value} (h : Reps Rr sz xs inner) (hR : ∀ x c, Rr x c → c.length = sz ∧ ∀ u ∈ c, u.oneCell' = true) : Reps (fun x cs => cs = x ∧ cs.length = sz ∧ ∀ u ∈ cs, u.oneCell' = true) sz (chunks sz xs.length inner) inner := by
 refine ⟨by rw [chunks_length]; exact h.1, fun j p hj => ?_⟩
 have hjl : j < xs.length := by have := (List.getElem?_eq_some_iff.1 hj).1; rwa [chunks_length] at this
 have hp := chunks_get hj
 exact ⟨hp.symm, hR _ _ (h.2 j _ (List.getElem?_eq_getElem hjl))⟩
section
variable {α : Type} {d : Kd α} {e base n cc g : Nat} {ok ok' okp S : Nat → Prop} {w w1 W W1 : World} {A : Option Addr} {u v v1 : Value} {xs : List α} {x : α} {c : List Value}
def N {α : Type} (d : Kd α) (e : Nat) (w : World) (base : Nat) (ok : Nat → Prop) (v : Value) (xs : List α) : Prop :=
 (∀ k, v.ownBlock = some k → ok k) ∧ ∃ rows : List (List Value), rows.length = xs.length ∧ (raw d.sz).R e w base (fun k => some k = v.ownBlock) v rows ∧ ∀ (j : Nat) (x : α) (c : List Value), xs[j]? = some x → rows[j]? = some c → FK d w (fun k => ok k ∧ some k ≠ v.ownBlock) x c
theorem R_N (h : d.R e w base ok v xs) : N d e w base ok v xs := by
 obtain ⟨h0, inner, ho, hr⟩ := h
 refine ⟨h0, chunks d.sz xs.length inner, chunks_length _ _ _, ⟨fun k hk => hk.symm, inner, by rw [chunks_length]; exact ho, reps_raw hr (fun x c hp => ⟨d.K_len (d.K_of_M hp), d.K_one (d.K_of_M hp)⟩)⟩, fun j x c hx hc => ?_⟩
 rw [chunks_get hc]
 exact FK_of_M (hr.2 j x hx)
theorem N_nil (d : Kd α) (e : Nat) (w : World) (base : Nat) (ok : Nat → Prop) : N d e w base ok (.slice none 0 0) [] := R_N (R_nil _ _ _ _ _)
end
end Kd
end Go.Proofs.YtopfjjdkffdjpaaW.PrintWords
end
section
-- PRINTED BY print.sh 35421559b90ae4d0a3588c463048766b98c2df88dd9212a6774a882060cdf62d: not written by this session
namespace Go.Proofs.YtopfjjdkffdjpaaW.PrintWords
open Go.RowKit
namespace Kd
section
variable {α : Type} {d : Kd α} {e base n cap g : Nat} {ok ok' okp : Nat → Prop} {w w1 W : World} {v v1 : Value} {xs ys : List α}
end
section
variable {P : Program} {ops : Array Oper} {rest : List Oper} {o : Oper} {a : Act} {Q : Exit → Act → World → Prop} {Kc : Act → World → Prop} {α : Type}
end
end Kd
end Go.Proofs.YtopfjjdkffdjpaaW.PrintWords
end
section
-- PRINTED BY print.sh 35421559b90ae4d0a3588c463048766b98c2df88dd9212a6774a882060cdf62d: not written by this session
-- PRINTED WORDS (module Derived/Print/More.lean): go-gate-2's additions: an AI agent of Go's test side, Tue Nov 17 2026; no person has read it. Lean checks it.
namespace Go.Proofs.YtopfjjdkffdjpaaW.PrintMore
open Go.RowKit Go.Proofs.YtopfjjdkffdjpaaW.PrintWords
namespace Kd
open Go.Proofs.YtopfjjdkffdjpaaW.PrintWords.Kd
end Kd
namespace Kd
open Go.Proofs.YtopfjjdkffdjpaaW.PrintWords.Kd
section
variable {α : Type} {d : Kd α} {e base g N : Nat} {ok : Nat → Prop} {W w1 : World} {u v : Value} {xs : List α}
theorem R_old (hu : d.R e W base ok u xs) (hb : Below W.heap.size W w1) : d.R e w1 base (fun k => ok k ∧ k < W.heap.size) u xs :=
 R_mono (R_below (R_bound hu) hb) (fun _ h => ⟨h.1, h.2.2.1⟩)
theorem R_told (h : d.R e w1 base (fun k => ok k ∧ k < N) u xs) (hbase : ∀ k, v.ownBlock = some k → N ≤ k) : d.R e w1 base (fun k => (ok k ∧ some k ≠ v.ownBlock) ∧ k < N) u xs :=
 R_mono h (fun k hk => ⟨⟨hk.1, fun e => Nat.lt_irrefl _ (Nat.lt_of_lt_of_le hk.2 (hbase k e.symm))⟩, hk.2⟩)
end
end Kd
theorem max2_int (k k' : IntKind) (x y : Int) : Builtin.max2 (.int k x) (.int k' y) = pure (.int k (if x < y then y else x)) := by simp only [Builtin.max2, gt_iff_lt]
theorem min2_int (k k' : IntKind) (x y : Int) : Builtin.min2 (.int k x) (.int k' y) = pure (.int k (if y < x then y else x)) := by simp only [Builtin.min2]
theorem max_two (ats : Array TypeId) (ty : TypeId) (a b : Value) : Builtin.max_ ats ty #[a, b] = (Builtin.max2 a b >>= fun s => pure s) := by simp only [Builtin.max_, List.foldlM_cons, List.foldlM_nil]
theorem min_two (ats : Array TypeId) (ty : TypeId) (a b : Value) : Builtin.min_ ats ty #[a, b] = (Builtin.min2 a b >>= fun s => pure s) := by simp only [Builtin.min_, List.foldlM_cons, List.foldlM_nil]
theorem max_three (ats : Array TypeId) (ty : TypeId) (a b c : Value) : Builtin.max_ ats ty #[a, b, c] = (Builtin.max2 a b >>= fun s => Builtin.max2 s c >>= fun s => pure s) := by simp only [Builtin.max_, List.foldlM_cons, List.foldlM_nil]
theorem min_three (ats : Array TypeId) (ty : TypeId) (a b c : Value) : Builtin.min_ ats ty #[a, b, c] = (Builtin.min2 a b >>= fun s => Builtin.min2 s c >>= fun s => pure s) := by simp only [Builtin.min_, List.foldlM_cons, List.foldlM_nil]
theorem max_four (ats : Array TypeId) (ty : TypeId) (a b c d : Value) : Builtin.max_ ats ty #[a, b, c, d] = (Builtin.max2 a b >>= fun s => Builtin.max2 s c >>= fun s => Builtin.max2 s d >>= fun s => pure s) := by simp only [Builtin.max_, List.foldlM_cons, List.foldlM_nil]
theorem min_four (ats : Array TypeId) (ty : TypeId) (a b c d : Value) : Builtin.min_ ats ty #[a, b, c, d] = (Builtin.min2 a b >>= fun s => Builtin.min2 s c >>= fun s => Builtin.min2 s d >>= fun s => pure s) := by simp only [Builtin.min_, List.foldlM_cons, List.foldlM_nil]
end Go.Proofs.YtopfjjdkffdjpaaW.PrintMore
namespace Go.Proofs.YtopfjjdkffdjpaaW.PrintWords
open Go.RowKit
section
variable {P : Program} {ops : Array Oper} {rest : List Oper} {o : Oper} {a : Act} {Q : Exit → Act → World → Prop} {W : World}
theorem gate_callee {f : FuncId} {as0 : Array Operand} {ts : Array TypeId} (_ho : o.op = .call { callee := .value (.func f), args := as0, argTypes := ts }) (h : wpList P ops Q (o :: rest) a W) : wpList P ops Q (o :: rest) a W := h
theorem gate_builtin {b : Builtin} {xs : Array Operand} {ts : Array TypeId} (_ho : o.op = .call { callee := .builtin b, args := xs, argTypes := ts }) (h : wpList P ops Q (o :: rest) a W) : wpList P ops Q (o :: rest) a W := h
end
theorem drewN_self (w : World) (n : Nat) : w.drewN n = w.drewN n := rfl
namespace Kd
section
variable {α : Type} {d : Kd α} {e base : Nat} {ok : Nat → Prop} {W w1 : World} {v : Value} {xs : List α}
end
section
variable {α : Type} {d : Kd α} {e base g n cap : Nat} {ok oki okp : Nat → Prop} {W : World} {xs : List α} {i : Int} {c : List Value}
end
section
variable {α : Type} {d : Kd α} {e base b b' g N : Nat} {ok ok1 : Nat → Prop} {W W2 w1 : World} {u v : Value} {xs ys : List α} {S : Nat → Prop}
end
end Kd
end Go.Proofs.YtopfjjdkffdjpaaW.PrintWords
namespace Go.Proofs.YtopfjjdkffdjpaaW.PrintWords
open Go.RowKit
namespace Kd
def V {α : Type} (d : Kd α) (_e : Nat) (W : World) (_base : Nat) (ok : Nat → Prop) (v : Value) (xs : List α) : Prop := ∃ A c, v = .slice A xs.length c ∧ xs.length ≤ c ∧ F d W ok A xs.length xs
section
variable {α β : Type} {d : Kd α} {e base base' n m c g N' lo hi : Nat} {ok ok' S : Nat → Prop} {w W w1 : World} {A : Option Addr} {ad : Addr} {u v v1 : Value} {xs : List α}
theorem V_nil (d : Kd α) (e : Nat) (W : World) (base : Nat) (ok : Nat → Prop) : V d e W base ok (.slice none 0 0) [] := ⟨none, 0, rfl, Nat.le_refl _, F_nil d W ok⟩
end
end Kd
end Go.Proofs.YtopfjjdkffdjpaaW.PrintWords
end
section
namespace Go.Proofs.Ytopfjjdkffdjpaa.Q
open Go.RowKit Go.Proofs.YtopfjjdkffdjpaaW.PrintWords Go.Proofs.YtopfjjdkffdjpaaW.PrintLast Go.Proofs.YtopfjjdkffdjpaaW.PrintMore
theorem bs_ {α β : Type} {x : Option α} {f : α → Option β} {b : β} (h : x.bind f = some b) : ∃ a, Aside0 (x = some a) ∧ f a = some b := by
 obtain ⟨a, h1, h2⟩ := Option.bind_eq_some_iff.mp h
 exact ⟨a, ⟨h1⟩, h2⟩
theorem it_ {α : Type} {a b c : α} {d : Decidable (true = true)} (h : @ite _ (true = true) d a b = c) : a = c := by
 rw [if_pos rfl] at h; exact h
theorem if_ {α : Type} {a b c : α} {d : Decidable (false = true)} (h : @ite _ (false = true) d a b = c) : b = c := by
 rw [if_neg Bool.false_ne_true] at h; exact h
section
variable {w : World} {g : Nat} {t : TypeId}
theorem cz3_ {a b c : Value} (h : w.heap[g]? = some (.cells #[a, b, c] t (0, 0))) : w.cell? ⟨g, 0, none⟩ = some a ∧ w.cell? ⟨g, 1, none⟩ = some b ∧ w.cell? ⟨g, 2, none⟩ = some c :=
 ⟨(blk_cell h 0).trans rfl, (blk_cell h 1).trans rfl, (blk_cell h 2).trans rfl⟩
theorem cz4_ {a b c d : Value} (h : w.heap[g]? = some (.cells #[a, b, c, d] t (0, 0))) : w.cell? ⟨g, 0, none⟩ = some a ∧ w.cell? ⟨g, 1, none⟩ = some b ∧ w.cell? ⟨g, 2, none⟩ = some c ∧ w.cell? ⟨g, 3, none⟩ = some d :=
 ⟨(blk_cell h 0).trans rfl, (blk_cell h 1).trans rfl, (blk_cell h 2).trans rfl, (blk_cell h 3).trans rfl⟩
theorem cz6_ {a b c d e f : Value} (h : w.heap[g]? = some (.cells #[a, b, c, d, e, f] t (0, 0))) : w.cell? ⟨g, 0, none⟩ = some a ∧ w.cell? ⟨g, 1, none⟩ = some b ∧ w.cell? ⟨g, 2, none⟩ = some c ∧ w.cell? ⟨g, 3, none⟩ = some d ∧ w.cell? ⟨g, 4, none⟩ = some e ∧ w.cell? ⟨g, 5, none⟩ = some f :=
 ⟨(blk_cell h 0).trans rfl, (blk_cell h 1).trans rfl, (blk_cell h 2).trans rfl, (blk_cell h 3).trans rfl, (blk_cell h 4).trans rfl, (blk_cell h 5).trans rfl⟩
theorem cz7_ {a b c d e f i : Value} (h : w.heap[g]? = some (.cells #[a, b, c, d, e, f, i] t (0, 0))) : w.cell? ⟨g, 0, none⟩ = some a ∧ w.cell? ⟨g, 1, none⟩ = some b ∧ w.cell? ⟨g, 2, none⟩ = some c ∧ w.cell? ⟨g, 3, none⟩ = some d ∧ w.cell? ⟨g, 4, none⟩ = some e ∧ w.cell? ⟨g, 5, none⟩ = some f ∧ w.cell? ⟨g, 6, none⟩ = some i :=
 ⟨(blk_cell h 0).trans rfl, (blk_cell h 1).trans rfl, (blk_cell h 2).trans rfl, (blk_cell h 3).trans rfl, (blk_cell h 4).trans rfl, (blk_cell h 5).trans rfl, (blk_cell h 6).trans rfl⟩
end
section
variable {w : World} {g : Nat} {t : TypeId} {cs : Array Value}
theorem fz3_ (h : w.heap[g]? = some (.cells cs t (0, 0))) : w.frozen? ⟨g, 0, none⟩ = false ∧ w.frozen? ⟨g, 1, none⟩ = false ∧ w.frozen? ⟨g, 2, none⟩ = false := ⟨blk_frozen h 0, blk_frozen h 1, blk_frozen h 2⟩
theorem fz4_ (h : w.heap[g]? = some (.cells cs t (0, 0))) : w.frozen? ⟨g, 0, none⟩ = false ∧ w.frozen? ⟨g, 1, none⟩ = false ∧ w.frozen? ⟨g, 2, none⟩ = false ∧ w.frozen? ⟨g, 3, none⟩ = false := ⟨blk_frozen h 0, blk_frozen h 1, blk_frozen h 2, blk_frozen h 3⟩
theorem fz6_ (h : w.heap[g]? = some (.cells cs t (0, 0))) : w.frozen? ⟨g, 0, none⟩ = false ∧ w.frozen? ⟨g, 1, none⟩ = false ∧ w.frozen? ⟨g, 2, none⟩ = false ∧ w.frozen? ⟨g, 3, none⟩ = false ∧ w.frozen? ⟨g, 4, none⟩ = false ∧ w.frozen? ⟨g, 5, none⟩ = false := ⟨blk_frozen h 0, blk_frozen h 1, blk_frozen h 2, blk_frozen h 3, blk_frozen h 4, blk_frozen h 5⟩
theorem fz7_ (h : w.heap[g]? = some (.cells cs t (0, 0))) : w.frozen? ⟨g, 0, none⟩ = false ∧ w.frozen? ⟨g, 1, none⟩ = false ∧ w.frozen? ⟨g, 2, none⟩ = false ∧ w.frozen? ⟨g, 3, none⟩ = false ∧ w.frozen? ⟨g, 4, none⟩ = false ∧ w.frozen? ⟨g, 5, none⟩ = false ∧ w.frozen? ⟨g, 6, none⟩ = false := ⟨blk_frozen h 0, blk_frozen h 1, blk_frozen h 2, blk_frozen h 3, blk_frozen h 4, blk_frozen h 5, blk_frozen h 6⟩
theorem cm_ {w0 : World} {n : Nat} {p : Addr} {v : Value} (h : Below n w0 w) (hc : w0.cell? p = some v) (hn : n = w0.heap.size := by rfl) : w.cell? p = some v := by
 subst hn; exact (h.cell (World.block_lt_of_cell? w0 _ hc)).trans hc
end
abbrev bf_ (n m : Nat) : Array Bool := ((List.range n).map fun i => m.testBit i).toArray
theorem sA_ {α : Type} (l : List α) (i : Nat) (a : α) : l.toArray.setIfInBounds i a = (l.set i a).toArray := List.setIfInBounds_toArray l i a
theorem sZ_ {α : Type} {x : α} {xs : List α} {a : α} : (x :: xs).set 0 a = a :: xs := rfl
theorem sS_ {α : Type} {x : α} {xs : List α} {i : Nat} {a : α} : (x :: xs).set (i + 1) a = x :: xs.set i a := rfl
theorem rs_ {p : Prop} (h : p := by first | rfl | (simp; done) | (simp [*]; done)) : p := h
theorem as_ {p : Prop} (h : p := by first | (with_reducible assumption) | assumption) : p := h
theorem nl_ {p : Prop} (h : p := by first | exact Kd.R_nil _ _ _ _ _ | exact Kd.N_nil _ _ _ _ _ | exact Kd.V_nil _ _ _ _ _ | exact Kd.Q_nil _ _ _ _ _ | exact Kd.S_nil _ _ _ _ _) : p := h
theorem bk_ {w w1 : World} {g : Nat} {o : Obj} (h : w.heap[g]? = some o) (hb : Below w.heap.size w w1 := by with_reducible repeat (first | exact Below.refl _ _ | apply below_alloc | apply pw_below_drewN | apply below_drew1)) : w1.heap[g]? = some o := blk_below h hb
theorem bp_ {w w1 : World} {g : Nat} {o : Obj} (h : w.heap[g]? = some o) (hb : Below w.heap.size w w1 := by with_reducible repeat (first | apply below_alloc | apply pw_below_drewN | apply below_drew1 | exact Below.refl _ _)) : w1.heap[g]? = some o := blk_below h hb
theorem rk_ {α : Type} {d : Kd α} {e : TypeId} {w w1 : World} {base : Nat} {ok : Nat → Prop} {v : Value} {xs : List α} (h : d.R e w base ok v xs)
  (hb : Below w.heap.size w w1 := by with_reducible repeat (first | exact Below.refl _ _ | apply below_alloc | apply pw_below_drewN | apply below_drew1)) : d.R e w1 base ok v xs := Kd.R_below h hb
theorem bh_ {n : Nat} {w W : World} (h : Below n w W := by repeat (first | (with_reducible first | exact HB.out | apply below_alloc | apply pw_below_drewN | apply below_drew1 | refine below_set ?_ (Aside0.out (by assumption))) | exact HB.out)) : Below n w W := h
theorem bt_ {w W w2 : World} (k : Below W.heap.size W w2) (h : Below w.heap.size w W := by repeat (first | (with_reducible first | exact HB.out | apply below_alloc | apply pw_below_drewN | apply below_drew1 | refine below_set ?_ (Aside0.out (by assumption))) | exact HB.out)) : Aside0 (Below w.heap.size w w2) := ⟨below_step h k⟩
theorem bz_ {w W : World} (h : Below w.heap.size w W := by repeat (first | (with_reducible first | exact HB.out | apply below_alloc | apply pw_below_drewN | apply below_drew1 | refine below_set ?_ (Aside0.out (by assumption))) | exact HB.out)) : w.heap.size ≤ W.heap.size := below_size h
theorem rt_ {p : Prop} {n : Nat} {w W : World} (h : p := by first | rfl | (simp [errW_none, errW_some] <;> rfl) | (simp [*, errW_none, errW_some] <;> rfl)) (hb : Below n w W := by repeat (first | (with_reducible first | exact HB.out | apply below_alloc | apply pw_below_drewN | apply below_drew1 | refine below_set ?_ (Aside0.out (by assumption))) | exact HB.out)) : p ∧ Below n w W := ⟨h, hb⟩
theorem gl_ {P : Program} {ops : Array Oper} {Q : Exit → Act → World → Prop} {rest : List Oper} {oi : Oper} {a : Act} {w : World} (N : Option Tmp) {f : FuncId} {fn : Func} {as0 : Array Operand} {ts : Array TypeId} (hf : P.funcs[f]? = some fn) (args : Array Value)
  (h : Calls P f args w fun e w' => ∃ v, e = .returned v ∧ wpList P ops Q rest (a.put N v) w')
  (hd : oi.dst = N := by rfl) (hg : oi.guard = none := by rfl) (hname : (fn.name == "runtime.NumGoroutine") = false := by kernel_rfl) (hb : fn.body.isSome = true := by rfl)
  (hop : oi.op = .call { callee := .value (.func f), args := as0, argTypes := ts } := by rfl)
  (hargs : as0.map a.eval = args := by (try simp only [List.map_toArray, List.map_cons, List.map_nil]); first | done | rfl | (simp only [List.length_drop, List.length_take]; rfl)) : wpList P ops Q (oi :: rest) a w :=
 goesL_ N hd hg hf hname hb args hop hargs h
theorem bx_ {P : Program} {ops : Array Oper} {rest : List Oper} {o : Oper} {a : Act} {Q : Exit → Act → World → Prop} {w W : World} {N : Tmp} {cs : Array Value} {t : TypeId}
  (h : ∀ g, ∀ w1, Aside0 (w1.heap[g]? = some (.cells cs t (0, 0))) → Aside0 (Below w.heap.size w w1) → Aside0 (w.heap.size ≤ g) → Aside0 (w.heap.size ≤ g) → wpList P ops Q rest (a.put o.dst (.pointer (some ⟨g, 0, none⟩))) w1)
  (hb : Below w.heap.size w W := by repeat (first | (with_reducible first | exact HB.out | apply below_alloc | apply pw_below_drewN | apply below_drew1 | refine below_set ?_ (Aside0.out (by assumption))) | exact HB.out))
  (hgd : o.guard = none := by rfl) (_hd : o.dst = some N := by rfl)
  (hrun : (execOp a.eval o).run P W = .ok (.value (.pointer (some ⟨W.heap.size, 0, none⟩))) (W.alloc (.cells cs t (0, 0))) := by first | (go_simp; done) | (go_simp; rfl)) :
  wpList P ops Q (o :: rest) a W :=
 box_event hgd _hd hrun fun g hg w1 h1 h2 => h g w1 ⟨h1⟩ ⟨below_step hb h2⟩ ⟨hg ▸ below_size hb⟩ ⟨hg ▸ below_size hb⟩
theorem be_ {P : Program} {ops : Array Oper} {rest : List Oper} {o : Oper} {a : Act} {Q : Exit → Act → World → Prop} {W : World} {N : Tmp} {cs : Array Value} {t : TypeId}
  (h : ∀ g, g = W.heap.size → ∀ w1, w1.heap[g]? = some (.cells cs t (0, 0)) → Below W.heap.size W w1 → wpList P ops Q rest (a.put o.dst (.pointer (some ⟨g, 0, none⟩))) w1)
  (hgd : o.guard = none := by rfl) (_hd : o.dst = some N := by rfl)
  (hrun : (execOp a.eval o).run P W = .ok (.value (.pointer (some ⟨W.heap.size, 0, none⟩))) (W.alloc (.cells cs t (0, 0))) := by first | (go_simp; done) | (go_simp; rfl)) :
  wpList P ops Q (o :: rest) a W := box_event hgd _hd hrun h
section
variable {P : Program} {md : Region.Mode} {ops : Array Oper} {Q : Exit → Act → World → Prop} {S : World → Prop} {ds : List Nat} {T : Bool × List (List Nat × List Nat)} {B : List Nat} {v : Value} {oi : Oper} {fuel : Nat} {l : Array Bool} {a a' : Act} {w : World}
theorem pu_ (i : Nat) (N : Option Tmp) (l' : Array Bool) (hT : rtab md ops = T) (h : wpAnyLast P md ops Q S ds fuel l' a' w) (hi : ops[i]? = some oi := by rfl) (hN : oi.dst = N := by rfl) (hc : anyT T l.toList l'.toList i = true := by kernel_rfl)
  (hQ : ∀ c a w, Q (.panic c) (a.put oi.dst v) w → Q (.panic c) a w := by exact fun _ _ _ h => h) (hg : Region.wanted oi (yielded ops a.tmps) = true := by rfl) (hy : ∀ w, (execOp a.eval oi).run P w = .ok (.value v) w := by intro w'; go_simp; with_reducible rfl)
  (ha : a.put N v = a' := by simp only [Act.put, sA_, sZ_, sS_, i64_w, i32_w]; rfl) : wpAnyLast P md ops Q S ds (fuel + 1) l a w := pure_ l' hi hN (any_of hT hc) hQ (Or.inl ⟨hg, hy⟩) ha h
theorem ta_ (i : Nat) (N : Option Tmp) (l' : Array Bool) (hT : rtab md ops = T) (hW : waitsOk T.2 B = true) (hS : S w) (h : wpAnyLast P md ops Q S ds fuel l' a' w) (hi : ops[i]? = some oi := by rfl) (hN : oi.dst = N := by rfl) (hc : takeW T B ds l.toList l'.toList i = true := by kernel_rfl)
  (hQ : ∀ c a w, Q (.panic c) (a.put oi.dst v) w → Q (.panic c) a w := by exact fun _ _ _ h => h) (hg : Region.wanted oi (yielded ops a.tmps) = true := by rfl) (hy : ∀ w, S w → (execOp a.eval oi).run P w = .ok (.value v) w := by intro w' hS_; (try dsimp only at hS_); go_simp; with_reducible rfl)
  (ha : a.put N v = a' := by simp only [Act.put, sA_, sZ_, sS_, i64_w, i32_w]; rfl) : wpAnyLast P md ops Q S ds (fuel + 1) l a w := take_ l' hi hN (take_ofW hT hW hc) hQ (Or.inl ⟨hg, hy⟩) hS ha h
end
theorem ck_ {α : Type} {d : Kd α} {w w1 : World} {A : Option Addr} {n : Nat} {xs : List α} (h : d.C w A n xs) (hb : Below w.heap.size w w1 := by with_reducible repeat (first | exact Below.refl _ _ | apply below_alloc | apply pw_below_drewN | apply below_drew1)) : d.C w1 A n xs := Kd.C_below h hb
theorem gs_ {P : Program} {ops : Array Oper} {Q : Exit → Act → World → Prop} {oi : Oper} {N : Option Tmp} {a : Act} {w : World} {K : Act → World → Prop} {f : FuncId} {fn : Func} {as0 : Array Operand} {ts : Array TypeId} (hf : P.funcs[f]? = some fn) (args : Array Value)
  (h : Calls P f args w fun e w' => ∃ v, e = .returned v ∧ K (a.put N v) w') (hname : (fn.name == "runtime.NumGoroutine") = false := by kernel_rfl) (hb : fn.body.isSome = true := by rfl)
  (hw : Region.wanted oi (yielded ops a.tmps) = true := by rfl) (hN : oi.dst = N := by rfl) (hop : oi.op = .call { callee := .value (.func f), args := as0, argTypes := ts } := by rfl)
  (hargs : as0.map a.eval = args := by (try simp only [List.map_toArray, List.map_cons, List.map_nil]); first | done | rfl | (simp only [List.length_drop, List.length_take]; rfl)) : if Region.wanted oi (yielded ops a.tmps) = true then Oper.wp P oi a w K Q else K (a.put N undef) w :=
 goes_ hf hname hb args hw hN hop hargs h
theorem gw_ {w W : World} {g : Nat} (hg : g = W.heap.size) (h : Below w.heap.size w W := by repeat (first | (with_reducible first | exact HB.out | apply below_alloc | apply pw_below_drewN | apply below_drew1 | refine below_set ?_ (Aside0.out (by assumption))) | exact HB.out)) : Aside0 (w.heap.size ≤ g) := ⟨hg ▸ below_size h⟩
section
variable {w w1 w2 : World} {b g : Nat} {o : Obj}
theorem ne_ (hg : g = w1.heap.size) (h : Aside0 (w.heap[b]? = some o)) (hb : Below w.heap.size w w1 := by with_reducible repeat (first | exact Below.refl _ _ | apply below_alloc | apply pw_below_drewN | apply below_drew1)) : Aside0 (b ≠ g) := ⟨hg ▸ Nat.ne_of_lt (blk_lt (bk_ h.out hb))⟩
theorem nf_ (hg : g = w1.heap.size) (h : Aside0 (w.heap[b]? = some o)) (hb : Below w.heap.size w w1 := by with_reducible repeat (first | exact Below.refl _ _ | apply below_alloc | apply pw_below_drewN | apply below_drew1)) : Aside0 (g ≠ b) := ⟨hg ▸ Nat.ne_of_gt (blk_lt (bk_ h.out hb))⟩
theorem bw_ (h : Aside0 (w.heap[b]? = some o)) (h2 : Below w1.heap.size w1 w2) (hb : Below w.heap.size w w1 := by with_reducible repeat (first | exact Below.refl _ _ | apply below_alloc | apply pw_below_drewN | apply below_drew1)) : Aside0 (w2.heap[b]? = some o) := ⟨blk_below (bk_ h.out hb) h2⟩
theorem rw_ {α : Type} {d : Kd α} {e : TypeId} {base : Nat} {ok : Nat → Prop} {v : Value} {xs : List α} (h : Aside0 (d.R e w base ok v xs)) (h2 : Below w1.heap.size w1 w2)
  (hb : Below w.heap.size w w1 := by with_reducible repeat (first | exact Below.refl _ _ | apply below_alloc | apply pw_below_drewN | apply below_drew1)) : Aside0 (d.R e w2 base ok v xs) := ⟨Kd.R_below (rk_ h.out hb) h2⟩
end
theorem lr_ {α : Type} (a : Option α) : LeO a a := LeO.refl a
theorem ln_ {α : Type} (a : Option α) : LeO none a := LeO.none a
theorem li_ {α : Type} {c : Prop} [Decidable c] {a b a2 b2 : Option α} (h1 : LeO a a2) (h2 : LeO b b2) : LeO (if c then a else b) (if c then a2 else b2) := LeO.ite h1 h2
theorem lb_ {α β : Type} {x x2 : Option α} {f f2 : α → Option β} (h : LeO x x2) (hf : ∀ y, LeO (f y) (f2 y)) : LeO (x.bind f) (x2.bind f2) := LeO.bind h hf
theorem am_ {p : Prop} (h : p) : Aside0 p := ⟨h⟩
def Kg_ (g : Nat) (w w1 : World) : Prop := w.heap.size ≤ w1.heap.size ∧ ∀ k, k < w.heap.size → k ≠ g → w1.heap[k]? = w.heap[k]?
theorem Kg_.refl (g : Nat) (w : World) : Kg_ g w w := ⟨Nat.le_refl _, fun _ _ _ => rfl⟩
theorem Kg_.below {g : Nat} {w w1 w2 : World} (h : Kg_ g w w1) (hb : Below w1.heap.size w1 w2) : Kg_ g w w2 := ⟨Nat.le_trans h.1 hb.size, fun k hk hn => (hb.block k (Nat.lt_of_lt_of_le hk h.1)).trans (h.2 k hk hn)⟩
theorem Kg_.alloc {g : Nat} {w w1 : World} (h : Kg_ g w w1) (o : Obj) : Kg_ g w (w1.alloc o) := h.below (below_alloc (Below.refl _ _) o)
theorem Kg_.drewN {g : Nat} {w w1 : World} (h : Kg_ g w w1) (n : Nat) : Kg_ g w (w1.drewN n) := h.below (pw_below_drewN (Below.refl _ _) n)
theorem Kg_.drew {g : Nat} {w w1 : World} (h : Kg_ g w w1) : Kg_ g w w1.drew := h.below (below_drew1 (Below.refl _ _))
theorem Kg_.set {g : Nat} {w w1 : World} (h : Kg_ g w w1) (j : Nat) (u : Value) : Kg_ g w (w1.setCell ⟨g, j, none⟩ u) := ⟨by rw [World.size_setCell]; exact h.1, fun k hk hn => (Below.heap_setCell w1 _ u k hn).trans (h.2 k hk hn)⟩
section
variable {w w1 : World} {g : Nat} {t : TypeId} {cs : Array Value}
theorem fa_ {α : Type} {d : Kd α} {e : TypeId} {base : Nat} {ok ok' : Nat → Prop} {v : Value} {xs : List α} (h : Aside0 (d.R e w base ok v xs)) (b : Aside0 (w.heap[g]? = some (.cells cs t (0, 0)))) (ht : ∀ q, q ∈ e :: d.E → q ≠ t := by decide)
  (hk : Kg_ g w w1 := by with_reducible repeat (first | exact Kg_.refl _ _ | apply Kg_.set | apply Kg_.alloc | apply Kg_.drewN | apply Kg_.drew)) (hok : ∀ k, ok k ∧ k ≠ g → ok' k := by intro _ hk; first | exact hk.1 | exact trivial | (simp only [ne_eq] at hk ⊢; simp [hk]; done)) : d.R e w1 base ok' v xs :=
 Kd.R_mono (Kd.R_step (Kd.R_types h.out b.out ht) (fun k hk1 hk2 => hk.2 k hk2 hk1.2)) hok
theorem bf1_ {b : Nat} {o : Obj} (hn : Aside0 (b ≠ g)) (h : Aside0 (w.heap[b]? = some o)) (hk : Kg_ g w w1 := by with_reducible repeat (first | exact Kg_.refl _ _ | apply Kg_.set | apply Kg_.alloc | apply Kg_.drewN | apply Kg_.drew)) : w1.heap[b]? = some o := (hk.2 b (blk_lt h.out) hn.out).trans h.out
end
end Go.Proofs.Ytopfjjdkffdjpaa.Q
end
section
-- PRINTED BY print.sh 35421559b90ae4d0a3588c463048766b98c2df88dd9212a6774a882060cdf62d: not written by this session
namespace Go.Proofs.YtopfjjdkffdjpaaW.PrintLast
section
variable {P : Program} {ops : Array Oper} {Q : Exit → Act → World → Prop} {md : Region.Mode} {S : World → Prop} {ds : List Nat} {T : Bool × List (List Nat × List Nat)}
theorem four_ {i j k m : Nat} {Ni Nj Nk Nm : Option Tmp} {oi oj ok om : Oper} {fuel : Nat} {l : Array Bool} {a : Act} {w : World} (li lj lk lm : Array Bool) (hi : ops[i]? = some oi) (hj : ops[j]? = some oj) (hk : ops[k]? = some ok) (hm : ops[m]? = some om) (hNi : oi.dst = Ni) (hNj : oj.dst = Nj) (hNk : ok.dst = Nk) (hNm : om.dst = Nm)
  (hc : (Region.ready md ops l == [i, j, k, m] && l.setIfInBounds i true == li && l.setIfInBounds j true == lj && l.setIfInBounds k true == lk && l.setIfInBounds m true == lm) = true) (hdi : i ∉ ds) (hdj : j ∉ ds) (hdk : k ∉ ds) (hdm : m ∉ ds)
  (hhi : ∀ K : Act → World → Prop, Shut (∀ a' w', S w' → (S w' → wpAnyLast P md ops Q S ds fuel li a' w') → K a' w') → if Region.wanted oi (yielded ops a.tmps) = true then Oper.wp P oi a w K Q else K (a.put Ni undef) w)
  (hhj : ∀ K : Act → World → Prop, Shut (∀ a' w', S w' → (S w' → wpAnyLast P md ops Q S ds fuel lj a' w') → K a' w') → if Region.wanted oj (yielded ops a.tmps) = true then Oper.wp P oj a w K Q else K (a.put Nj undef) w)
  (hhk : ∀ K : Act → World → Prop, Shut (∀ a' w', S w' → (S w' → wpAnyLast P md ops Q S ds fuel lk a' w') → K a' w') → if Region.wanted ok (yielded ops a.tmps) = true then Oper.wp P ok a w K Q else K (a.put Nk undef) w)
  (hhm : ∀ K : Act → World → Prop, Shut (∀ a' w', S w' → (S w' → wpAnyLast P md ops Q S ds fuel lm a' w') → K a' w') → if Region.wanted om (yielded ops a.tmps) = true then Oper.wp P om a w K Q else K (a.put Nm undef) w) :
  wpAnyLast P md ops Q S ds (fuel + 1) l a w := by
 subst hNi
 subst hNj
 subst hNk
 subst hNm
 simp only [Bool.and_eq_true, beq_iff_eq] at hc
 obtain ⟨⟨⟨⟨hr, hsi⟩, hsj⟩, hsk⟩, hsm⟩ := hc
 subst hsi
 subst hsj
 subst hsk
 subst hsm
 exact wpAnyLast_ready hr (by simp) (AllReadyL.cons hi hdi (fun K hK => hhi K hK) (AllReadyL.cons hj hdj (fun K hK => hhj K hK) (AllReadyL.cons hk hdk (fun K hK => hhk K hK) (AllReadyL.cons hm hdm (fun K hK => hhm K hK) AllReadyL.nil))))
theorem four_of {i j k m : Nat} {l li lj lk lm : Array Bool} (hT : rtab md ops = T) (h : (readyT T.2 l.toList == [i, j, k, m] && l.toList.set i true == li.toList && l.toList.set j true == lj.toList && l.toList.set k true == lk.toList && l.toList.set m true == lm.toList) = true) : (Region.ready md ops l == [i, j, k, m] && l.setIfInBounds i true == li && l.setIfInBounds j true == lj && l.setIfInBounds k true == lk && l.setIfInBounds m true == lm) = true := by
 simp only [Bool.and_eq_true] at h ⊢
 obtain ⟨⟨⟨⟨hr, hsi⟩, hsj⟩, hsk⟩, hsm⟩ := h
 subst hT
 exact ⟨⟨⟨⟨by rw [ready_eq]; exact hr, set_of hsi⟩, set_of hsj⟩, set_of hsk⟩, set_of hsm⟩
end
end Go.Proofs.YtopfjjdkffdjpaaW.PrintLast
end
section
-- PRINTED BY print.sh 35421559b90ae4d0a3588c463048766b98c2df88dd9212a6774a882060cdf62d: not written by this session
namespace Go.Proofs.YtopfjjdkffdjpaaW.PrintWords
open Go.RowKit
namespace Kd
section
variable {α : Type} {d : Kd α} {W : World} {g n : Nat} {S ok : Nat → Prop} {A : Option Addr} {ad : Addr} {xs : List α}
end
end Kd
end Go.Proofs.YtopfjjdkffdjpaaW.PrintWords
end
section
-- PRINTED BY print.sh 35421559b90ae4d0a3588c463048766b98c2df88dd9212a6774a882060cdf62d: not written by this session
namespace Go.Proofs.YtopfjjdkffdjpaaW.PrintWords
open Go.RowKit
section
variable {w w' u : World} {m B g : Nat} {o : Obj} {row : Option Nat} {S : Nat → Prop} {a : Addr} {v : Value}
end
namespace Kd
section
variable {α : Type} {d : Kd α} {e base n m : Nat} {ok : Nat → Prop} {w w' : World} {v : Value} {A : Option Addr} {xs : List α}
end
end Kd
end Go.Proofs.YtopfjjdkffdjpaaW.PrintWords
end
section
-- PRINTED BY print.sh 35421559b90ae4d0a3588c463048766b98c2df88dd9212a6774a882060cdf62d: not written by this session
namespace Go.Proofs.YtopfjjdkffdjpaaW.PrintWords
open Go.RowKit
section
variable {P : Program} {d : Nat} {xs ys : Array Value} {f : Field} {fs : List Field} {a b : Value} {r s : Bool} {w : World}
theorem eqf_last (hn : (f.name == "_") = false) (ha : (part f.type xs f.offset).run P w = .ok a w) (hb : (part f.type ys f.offset).run P w = .ok b w) (he : (Op.equalIn d f.type a b).run P w = .ok r w) : (Op.eqFields d xs ys [f]).run P w = .ok r w := by
 have hn' : f.name ≠ "_" := by simpa using hn
 simp only [Op.eqFields, if_pos hn', Sem.run_bind, ha, hb, he, Result.andThen_ok]
 cases r <;> simp
theorem eqf_cons (hn : (f.name == "_") = false) (ha : (part f.type xs f.offset).run P w = .ok a w) (hb : (part f.type ys f.offset).run P w = .ok b w) (he : (Op.equalIn d f.type a b).run P w = .ok r w) (hr : (Op.eqFields d xs ys fs).run P w = .ok s w) : (Op.eqFields d xs ys (f :: fs)).run P w = .ok (r && s) w := by
 have hn' : f.name ≠ "_" := by simpa using hn
 rw [Op.eqFields]
 simp only [if_pos hn', Sem.run_bind, ha, hb, he, Result.andThen_ok]
 cases r
 ·simp
 ·simpa using hr
theorem eqA_of {t : TypeId} {fs : Array Field} (hu : P.underlying t = some (.struct fs)) (hp : P.stoodInHeld t = false) (h : (Op.eqFields d xs ys fs.toList).run P w = .ok r w) : (Op.equalIn (d + 1) t (.agg xs) (.agg ys)).run P w = .ok r w := by
 have hf : P.fieldsOf t = fs := by simp [Program.fieldsOf, hu]
 rw [run_equalIn_struct (P := P) w d t xs ys (by rw [hf]; exact hu) hp, hf]
 exact h
end
end Go.Proofs.YtopfjjdkffdjpaaW.PrintWords
end
section
-- PRINTED BY print.sh 35421559b90ae4d0a3588c463048766b98c2df88dd9212a6774a882060cdf62d: not written by this session
namespace Go.Proofs.YtopfjjdkffdjpaaW.PrintWords
theorem Reps.one {α : Type} {R : α → List Value → Prop} {ps : List α} {cs : List Value} {p : α} {v : Value} (hp : R p [v]) (h : Reps R 1 ps cs) : Reps R 1 (p :: ps) (v :: cs) := by
 refine ⟨by simp [h.1], fun j q hq => ?_⟩
 cases j with
 | zero =>
  simp only [List.getElem?_cons_zero, Option.some.injEq] at hq
  subst hq
  simpa using hp
 | succ j =>
  simp only [List.getElem?_cons_succ] at hq
  have h1 := h.2 j q hq
  simpa [Nat.mul_one] using h1
theorem Reps.front {α : Type} {R : α → List Value → Prop} {size : Nat} {ps : List α} {cs c all : List Value} {p : α} (hp : R p c) (hc : c.length = size) (h : Reps R size ps cs) (ha : c ++ cs = all) : Reps R size (p :: ps) all := by
 subst ha
 refine ⟨by rw [List.length_append, hc, h.1, List.length_cons, Nat.succ_mul, Nat.add_comm], fun j q hq => ?_⟩
 cases j with
 | zero =>
  simp only [List.getElem?_cons_zero, Option.some.injEq] at hq
  subst hq
  rw [Nat.zero_mul, List.drop_zero, List.take_append_of_le_length (by omega), List.take_of_length_le (by omega)]
  exact hp
 | succ j =>
  simp only [List.getElem?_cons_succ] at hq
  have h1 := h.2 j q hq
  rw [Nat.succ_mul, List.drop_append, List.drop_of_length_le (by rw [hc]; exact Nat.le_add_left _ _), List.nil_append, hc, Nat.add_sub_cancel]
  exact h1
theorem Reps.c2 {α : Type} {R : α → List Value → Prop} {ps : List α} {cs : List Value} {p : α} {va vb : Value} (hp : R p [va, vb]) (h : Reps R 2 ps cs) : Reps R 2 (p :: ps) (va :: vb :: cs) := Reps.front hp rfl h rfl
theorem Reps.c3 {α : Type} {R : α → List Value → Prop} {ps : List α} {cs : List Value} {p : α} {va vb vc : Value} (hp : R p [va, vb, vc]) (h : Reps R 3 ps cs) : Reps R 3 (p :: ps) (va :: vb :: vc :: cs) := Reps.front hp rfl h rfl
theorem Reps.c4 {α : Type} {R : α → List Value → Prop} {ps : List α} {cs : List Value} {p : α} {va vb vc vd : Value} (hp : R p [va, vb, vc, vd]) (h : Reps R 4 ps cs) : Reps R 4 (p :: ps) (va :: vb :: vc :: vd :: cs) := Reps.front hp rfl h rfl
theorem Reps.c5 {α : Type} {R : α → List Value → Prop} {ps : List α} {cs : List Value} {p : α} {va vb vc vd ve : Value} (hp : R p [va, vb, vc, vd, ve]) (h : Reps R 5 ps cs) : Reps R 5 (p :: ps) (va :: vb :: vc :: vd :: ve :: cs) := Reps.front hp rfl h rfl
theorem Reps.c6 {α : Type} {R : α → List Value → Prop} {ps : List α} {cs : List Value} {p : α} {va vb vc vd ve vf : Value} (hp : R p [va, vb, vc, vd, ve, vf]) (h : Reps R 6 ps cs) : Reps R 6 (p :: ps) (va :: vb :: vc :: vd :: ve :: vf :: cs) := Reps.front hp rfl h rfl
theorem Reps.c7 {α : Type} {R : α → List Value → Prop} {ps : List α} {cs : List Value} {p : α} {va vb vc vd ve vf vg : Value} (hp : R p [va, vb, vc, vd, ve, vf, vg]) (h : Reps R 7 ps cs) : Reps R 7 (p :: ps) (va :: vb :: vc :: vd :: ve :: vf :: vg :: cs) := Reps.front hp rfl h rfl
theorem Reps.c8 {α : Type} {R : α → List Value → Prop} {ps : List α} {cs : List Value} {p : α} {va vb vc vd ve vf vg vh : Value} (hp : R p [va, vb, vc, vd, ve, vf, vg, vh]) (h : Reps R 8 ps cs) : Reps R 8 (p :: ps) (va :: vb :: vc :: vd :: ve :: vf :: vg :: vh :: cs) := Reps.front hp rfl h rfl
theorem Reps.c9 {α : Type} {R : α → List Value → Prop} {ps : List α} {cs : List Value} {p : α} {va vb vc vd ve vf vg vh vi : Value} (hp : R p [va, vb, vc, vd, ve, vf, vg, vh, vi]) (h : Reps R 9 ps cs) : Reps R 9 (p :: ps) (va :: vb :: vc :: vd :: ve :: vf :: vg :: vh :: vi :: cs) := Reps.front hp rfl h rfl
theorem Reps.c10 {α : Type} {R : α → List Value → Prop} {ps : List α} {cs : List Value} {p : α} {va vb vc vd ve vf vg vh vi vj : Value} (hp : R p [va, vb, vc, vd, ve, vf, vg, vh, vi, vj]) (h : Reps R 10 ps cs) : Reps R 10 (p :: ps) (va :: vb :: vc :: vd :: ve :: vf :: vg :: vh :: vi :: vj :: cs) := Reps.front hp rfl h rfl
end Go.Proofs.YtopfjjdkffdjpaaW.PrintWords
end
section
-- PRINTED BY print.sh 35421559b90ae4d0a3588c463048766b98c2df88dd9212a6774a882060cdf62d: not written by this session
namespace Go.Proofs.YtopfjjdkffdjpaaW.PrintLast
section
variable {P : Program} {ops : Array Oper} {Q : Exit → Act → World → Prop} {md : Region.Mode} {T : Bool × List (List Nat × List Nat)} {B : List Nat} {O : List Nat} {b : Nat → Bool} {i j n : Nat}
theorem put_comm {a : Act} {s t : Tmp} {u v : Value} (h : s ≠ t) : (a.put (some s) u).put (some t) v = (a.put (some t) v).put (some s) u := by
 simp only [Act.put]
 rw [Array.setIfInBounds_comm _ _ h]
end
end Go.Proofs.YtopfjjdkffdjpaaW.PrintLast
end
section
-- PRINTED BY print.sh 35421559b90ae4d0a3588c463048766b98c2df88dd9212a6774a882060cdf62d: not written by this session
namespace Go.Proofs.YtopfjjdkffdjpaaW.PrintWords
open Go.RowKit
end Go.Proofs.YtopfjjdkffdjpaaW.PrintWords
namespace Go.Proofs.YtopfjjdkffdjpaaW.PrintLast
section
variable {ops : Array Oper} {a : Act} {o og : Oper} {g : Nat} {t : Tmp} {u : Bool}
end
end Go.Proofs.YtopfjjdkffdjpaaW.PrintLast
end
section
-- PRINTED BY print.sh 35421559b90ae4d0a3588c463048766b98c2df88dd9212a6774a882060cdf62d: not written by this session
namespace Go.Proofs.YtopfjjdkffdjpaaW.PrintWords
open Go.RowKit
section
variable {P : Program} {ops : Array Oper} {rest : List Oper} {o : Oper} {a : Act} {Q : Exit → Act → World → Prop} {W : World}
theorem gate_guard (hw : Region.wanted o (yielded ops a.tmps) = true) (h : wpList P ops Q ({ o with guard := none } :: rest) a W) : wpList P ops Q (o :: rest) a W := by
 have h1 : Region.wanted { o with guard := none } (yielded ops a.tmps) = true := rfl
 unfold wpList at h ⊢
 rw [if_pos h1] at h
 rw [if_pos hw]
 exact h
end
end Go.Proofs.YtopfjjdkffdjpaaW.PrintWords
end
section
namespace Go.Proofs.Ytopfjjdkffdjpaa.Q
open Go.RowKit Go.Proofs.YtopfjjdkffdjpaaW.PrintWords Go.Proofs.YtopfjjdkffdjpaaW.PrintLast Go.Proofs.YtopfjjdkffdjpaaW.PrintMore
attribute [local go_sem] max2_int min2_int max_two min_two max_three min_three max_four min_four
def errW : Option Int → Value
 | none => .nilIface
 | some c => .iface 0 (.int .i64 c)
theorem errW_none : errW none = .nilIface := rfl
theorem errW_some (c : Int) : errW (some c) = .iface 0 (.int .i64 c) := rfl
theorem info3 : (Try.prog.info? 3).map (fun i => (i.zero, i.size, i.bytes)) = some (some (.int .i64 0), 1, 8) := by kernel_rfl
theorem info9 : (Try.prog.info? 9).map (fun i => (i.zero, i.size, i.bytes)) = some (some (.string ⟨#[]⟩), 1, 16) := by kernel_rfl
theorem info28 : (Try.prog.info? 28).map (fun i => (i.zero, i.size, i.bytes)) = some (some (.agg #[(.int .i64 0), (.int .i64 0), (.int .i64 0), (.string ⟨#[]⟩)]), 4, 40) := by kernel_rfl
theorem info44 : (Try.prog.info? 44).map (fun i => (i.zero, i.size, i.bytes)) = some (some (.agg #[(.int .i64 0), (.int .i64 0), (.int .i64 0), (.string ⟨#[]⟩)]), 4, 40) := by kernel_rfl
structure S28 where
 f0 : Int
 f1 : Int
 f2 : Int
 f3 : ByteArray
def z28 : S28 := ⟨(0 : Int), (0 : Int), (0 : Int), (⟨#[]⟩ : ByteArray)⟩
def k28 : Kd S28 := Kd.iso (Kd.pair (Kd.int .i64) (Kd.pair (Kd.int .i64) (Kd.pair (Kd.int .i64) Kd.string))) (fun x : S28 => (x.f0, x.f1, x.f2, x.f3))
theorem k28_open {w : World} {x : S28} {cs : List Value} (h : k28.K w x cs) : cs = [.int .i64 x.f0, .int .i64 x.f1, .int .i64 x.f2, .string x.f3] := by
 obtain ⟨_, _, rfl, rfl, ⟨_, _, rfl, rfl, ⟨_, _, rfl, rfl, rfl⟩⟩⟩ := h
 exact rfl
theorem k28_mkM (w : World) (base : Nat) (ok : Nat → Prop) (x : S28)  : k28.M w base ok x [.int .i64 x.f0, .int .i64 x.f1, .int .i64 x.f2, .string x.f3] := ⟨[.int .i64 x.f0], [.int .i64 x.f1, .int .i64 x.f2, .string x.f3], rfl, rfl, ⟨[.int .i64 x.f1], [.int .i64 x.f2, .string x.f3], rfl, rfl, ⟨[.int .i64 x.f2], [.string x.f3], rfl, rfl, rfl⟩⟩⟩
def rd_T28 (xs : List S28) (i : Int) : S28 := xs.getD i.toNat z28
theorem at_T28 {w : World} {A : Option Addr} {n : Nat} {xs : List S28} (h : Kd.C k28 w A n xs) (i : Int) (h0 : 0 ≤ i) (h1 : i < n) : ∃ ad , A = some ad ∧ w.cell? (ad.add (i.toNat * 4)) = some (.int .i64 (rd_T28 xs i).f0) ∧ w.cell? ⟨(ad.add (i.toNat * 4)).block, (ad.add (i.toNat * 4)).off + 1, none⟩ = some (.int .i64 (rd_T28 xs i).f1) ∧ w.cell? ⟨(ad.add (i.toNat * 4)).block, (ad.add (i.toNat * 4)).off + 2, none⟩ = some (.int .i64 (rd_T28 xs i).f2) ∧ w.cell? ⟨(ad.add (i.toNat * 4)).block, (ad.add (i.toNat * 4)).off + 3, none⟩ = some (.string (rd_T28 xs i).f3) := by
 obtain ⟨ad, c, e, _, hK, hc0⟩ := Kd.C_get h z28 i h0 h1
 have hc : ∀ j u, c[j]? = some u → w.cell? (ad.add (i.toNat * 4 + j)) = some u := hc0
 obtain rfl := k28_open hK
 exact ⟨ad, e, hc 0 _ rfl, by rw [← add_field _ _ 1 (by omega)]; exact hc 1 _ rfl, by rw [← add_field _ _ 2 (by omega)]; exact hc 2 _ rfl, by rw [← add_field _ _ 3 (by omega)]; exact hc 3 _ rfl⟩
structure S44 where
 f0 : Int
 f1 : Int
 f2 : Int
 f3 : ByteArray
def z44 : S44 := ⟨(0 : Int), (0 : Int), (0 : Int), (⟨#[]⟩ : ByteArray)⟩
def k44 : Kd S44 := Kd.iso (Kd.pair (Kd.int .i64) (Kd.pair (Kd.int .i64) (Kd.pair (Kd.int .i64) Kd.string))) (fun x : S44 => (x.f0, x.f1, x.f2, x.f3))
theorem k44_open {w : World} {x : S44} {cs : List Value} (h : k44.K w x cs) : cs = [.int .i64 x.f0, .int .i64 x.f1, .int .i64 x.f2, .string x.f3] := by
 obtain ⟨_, _, rfl, rfl, ⟨_, _, rfl, rfl, ⟨_, _, rfl, rfl, rfl⟩⟩⟩ := h
 exact rfl
theorem k44_openM {w : World} {base : Nat} {ok : Nat → Prop} {x : S44} {cs : List Value} (h : k44.M w base ok x cs) : cs = [.int .i64 x.f0, .int .i64 x.f1, .int .i64 x.f2, .string x.f3] := by
 obtain ⟨_, _, rfl, rfl, ⟨_, _, rfl, rfl, ⟨_, _, rfl, rfl, rfl⟩⟩⟩ := h
 exact rfl
theorem k44_mkM (w : World) (base : Nat) (ok : Nat → Prop) (x : S44)  : k44.M w base ok x [.int .i64 x.f0, .int .i64 x.f1, .int .i64 x.f2, .string x.f3] := ⟨[.int .i64 x.f0], [.int .i64 x.f1, .int .i64 x.f2, .string x.f3], rfl, rfl, ⟨[.int .i64 x.f1], [.int .i64 x.f2, .string x.f3], rfl, rfl, ⟨[.int .i64 x.f2], [.string x.f3], rfl, rfl, rfl⟩⟩⟩
def rd_T44 (xs : List S44) (i : Int) : S44 := xs.getD i.toNat z44
theorem at_T44 {w : World} {A : Option Addr} {n : Nat} {xs : List S44} (h : Kd.C k44 w A n xs) (i : Int) (h0 : 0 ≤ i) (h1 : i < n) : ∃ ad , A = some ad ∧ w.cell? (ad.add (i.toNat * 4)) = some (.int .i64 (rd_T44 xs i).f0) ∧ w.cell? ⟨(ad.add (i.toNat * 4)).block, (ad.add (i.toNat * 4)).off + 1, none⟩ = some (.int .i64 (rd_T44 xs i).f1) ∧ w.cell? ⟨(ad.add (i.toNat * 4)).block, (ad.add (i.toNat * 4)).off + 2, none⟩ = some (.int .i64 (rd_T44 xs i).f2) ∧ w.cell? ⟨(ad.add (i.toNat * 4)).block, (ad.add (i.toNat * 4)).off + 3, none⟩ = some (.string (rd_T44 xs i).f3) := by
 obtain ⟨ad, c, e, _, hK, hc0⟩ := Kd.C_get h z44 i h0 h1
 have hc : ∀ j u, c[j]? = some u → w.cell? (ad.add (i.toNat * 4 + j)) = some u := hc0
 obtain rfl := k44_open hK
 exact ⟨ad, e, hc 0 _ rfl, by rw [← add_field _ _ 1 (by omega)]; exact hc 1 _ rfl, by rw [← add_field _ _ 2 (by omega)]; exact hc 2 _ rfl, by rw [← add_field _ _ 3 (by omega)]; exact hc 3 _ rfl⟩
structure S64 where
 f0 : Int
 f1 : Int
 f2 : Int
 f3 : Int
 f4 : Int
 f5 : Int
def z64 : S64 := ⟨(0 : Int), (0 : Int), (0 : Int), (0 : Int), (0 : Int), (0 : Int)⟩
def k64 : Kd S64 := Kd.iso (Kd.pair (Kd.int .i64) (Kd.pair (Kd.int .i64) (Kd.pair (Kd.int .i64) (Kd.pair (Kd.int .i64) (Kd.pair (Kd.int .i64) (Kd.int .i64)))))) (fun x : S64 => (x.f0, x.f1, x.f2, x.f3, x.f4, x.f5))
theorem k64_open {w : World} {x : S64} {cs : List Value} (h : k64.K w x cs) : cs = [.int .i64 x.f0, .int .i64 x.f1, .int .i64 x.f2, .int .i64 x.f3, .int .i64 x.f4, .int .i64 x.f5] := by
 obtain ⟨_, _, rfl, rfl, ⟨_, _, rfl, rfl, ⟨_, _, rfl, rfl, ⟨_, _, rfl, rfl, ⟨_, _, rfl, rfl, rfl⟩⟩⟩⟩⟩ := h
 exact rfl
theorem k64_mkM (w : World) (base : Nat) (ok : Nat → Prop) (x : S64)  : k64.M w base ok x [.int .i64 x.f0, .int .i64 x.f1, .int .i64 x.f2, .int .i64 x.f3, .int .i64 x.f4, .int .i64 x.f5] := ⟨[.int .i64 x.f0], [.int .i64 x.f1, .int .i64 x.f2, .int .i64 x.f3, .int .i64 x.f4, .int .i64 x.f5], rfl, rfl, ⟨[.int .i64 x.f1], [.int .i64 x.f2, .int .i64 x.f3, .int .i64 x.f4, .int .i64 x.f5], rfl, rfl, ⟨[.int .i64 x.f2], [.int .i64 x.f3, .int .i64 x.f4, .int .i64 x.f5], rfl, rfl, ⟨[.int .i64 x.f3], [.int .i64 x.f4, .int .i64 x.f5], rfl, rfl, ⟨[.int .i64 x.f4], [.int .i64 x.f5], rfl, rfl, rfl⟩⟩⟩⟩⟩
structure S66 where
 f0 : ByteArray
 f1 : Int
 f2 : Int
 f3 : S64
def z66 : S66 := ⟨(⟨#[]⟩ : ByteArray), (0 : Int), (0 : Int), z64⟩
def k66 : Kd S66 := Kd.iso (Kd.pair Kd.string (Kd.pair (Kd.int .i64) (Kd.pair (Kd.int .i64) k64))) (fun x : S66 => (x.f0, x.f1, x.f2, x.f3))
theorem k66_open {w : World} {x : S66} {cs : List Value} (h : k66.K w x cs) : cs = [.string x.f0, .int .i64 x.f1, .int .i64 x.f2, .int .i64 x.f3.f0, .int .i64 x.f3.f1, .int .i64 x.f3.f2, .int .i64 x.f3.f3, .int .i64 x.f3.f4, .int .i64 x.f3.f5] := by
 obtain ⟨_, _, rfl, rfl, ⟨_, _, rfl, rfl, ⟨_, _, rfl, rfl, s3⟩⟩⟩ := h
 obtain rfl := k64_open s3
 exact rfl
theorem k66_mkM (w : World) (base : Nat) (ok : Nat → Prop) (x : S66)  : k66.M w base ok x [.string x.f0, .int .i64 x.f1, .int .i64 x.f2, .int .i64 x.f3.f0, .int .i64 x.f3.f1, .int .i64 x.f3.f2, .int .i64 x.f3.f3, .int .i64 x.f3.f4, .int .i64 x.f3.f5] := ⟨[.string x.f0], [.int .i64 x.f1, .int .i64 x.f2, .int .i64 x.f3.f0, .int .i64 x.f3.f1, .int .i64 x.f3.f2, .int .i64 x.f3.f3, .int .i64 x.f3.f4, .int .i64 x.f3.f5], rfl, rfl, ⟨[.int .i64 x.f1], [.int .i64 x.f2, .int .i64 x.f3.f0, .int .i64 x.f3.f1, .int .i64 x.f3.f2, .int .i64 x.f3.f3, .int .i64 x.f3.f4, .int .i64 x.f3.f5], rfl, rfl, ⟨[.int .i64 x.f2], [.int .i64 x.f3.f0, .int .i64 x.f3.f1, .int .i64 x.f3.f2, .int .i64 x.f3.f3, .int .i64 x.f3.f4, .int .i64 x.f3.f5], rfl, rfl, (k64_mkM w base ok x.f3 )⟩⟩⟩
def rd_T66 (xs : List S66) (i : Int) : S66 := xs.getD i.toNat z66
theorem at_T66 {w : World} {A : Option Addr} {n : Nat} {xs : List S66} (h : Kd.C k66 w A n xs) (i : Int) (h0 : 0 ≤ i) (h1 : i < n) : ∃ ad , A = some ad ∧ w.cell? (ad.add (i.toNat * 9)) = some (.string (rd_T66 xs i).f0) ∧ w.cell? ⟨(ad.add (i.toNat * 9)).block, (ad.add (i.toNat * 9)).off + 1, none⟩ = some (.int .i64 (rd_T66 xs i).f1) ∧ w.cell? ⟨(ad.add (i.toNat * 9)).block, (ad.add (i.toNat * 9)).off + 2, none⟩ = some (.int .i64 (rd_T66 xs i).f2) ∧ w.cell? ⟨(ad.add (i.toNat * 9)).block, (ad.add (i.toNat * 9)).off + 3, none⟩ = some (.int .i64 (rd_T66 xs i).f3.f0) ∧ w.cell? ⟨(ad.add (i.toNat * 9)).block, (ad.add (i.toNat * 9)).off + 4, none⟩ = some (.int .i64 (rd_T66 xs i).f3.f1) ∧ w.cell? ⟨(ad.add (i.toNat * 9)).block, (ad.add (i.toNat * 9)).off + 5, none⟩ = some (.int .i64 (rd_T66 xs i).f3.f2) ∧ w.cell? ⟨(ad.add (i.toNat * 9)).block, (ad.add (i.toNat * 9)).off + 6, none⟩ = some (.int .i64 (rd_T66 xs i).f3.f3) ∧ w.cell? ⟨(ad.add (i.toNat * 9)).block, (ad.add (i.toNat * 9)).off + 7, none⟩ = some (.int .i64 (rd_T66 xs i).f3.f4) ∧ w.cell? ⟨(ad.add (i.toNat * 9)).block, (ad.add (i.toNat * 9)).off + 8, none⟩ = some (.int .i64 (rd_T66 xs i).f3.f5) := by
 obtain ⟨ad, c, e, _, hK, hc0⟩ := Kd.C_get h z66 i h0 h1
 have hc : ∀ j u, c[j]? = some u → w.cell? (ad.add (i.toNat * 9 + j)) = some u := hc0
 obtain rfl := k66_open hK
 exact ⟨ad, e, hc 0 _ rfl, by rw [← add_field _ _ 1 (by omega)]; exact hc 1 _ rfl, by rw [← add_field _ _ 2 (by omega)]; exact hc 2 _ rfl, by rw [← add_field _ _ 3 (by omega)]; exact hc 3 _ rfl, by rw [← add_field _ _ 4 (by omega)]; exact hc 4 _ rfl, by rw [← add_field _ _ 5 (by omega)]; exact hc 5 _ rfl, by rw [← add_field _ _ 6 (by omega)]; exact hc 6 _ rfl, by rw [← add_field _ _ 7 (by omega)]; exact hc 7 _ rfl, by rw [← add_field _ _ 8 (by omega)]; exact hc 8 _ rfl⟩
structure S68 where
 f0 : ByteArray
 f1 : Int
 f2 : Int
 f3 : S64
def z68 : S68 := ⟨(⟨#[]⟩ : ByteArray), (0 : Int), (0 : Int), z64⟩
def k68 : Kd S68 := Kd.iso (Kd.pair Kd.string (Kd.pair (Kd.int .i64) (Kd.pair (Kd.int .i64) k64))) (fun x : S68 => (x.f0, x.f1, x.f2, x.f3))
theorem k68_open {w : World} {x : S68} {cs : List Value} (h : k68.K w x cs) : cs = [.string x.f0, .int .i64 x.f1, .int .i64 x.f2, .int .i64 x.f3.f0, .int .i64 x.f3.f1, .int .i64 x.f3.f2, .int .i64 x.f3.f3, .int .i64 x.f3.f4, .int .i64 x.f3.f5] := by
 obtain ⟨_, _, rfl, rfl, ⟨_, _, rfl, rfl, ⟨_, _, rfl, rfl, s3⟩⟩⟩ := h
 obtain rfl := k64_open s3
 exact rfl
theorem k68_mkM (w : World) (base : Nat) (ok : Nat → Prop) (x : S68)  : k68.M w base ok x [.string x.f0, .int .i64 x.f1, .int .i64 x.f2, .int .i64 x.f3.f0, .int .i64 x.f3.f1, .int .i64 x.f3.f2, .int .i64 x.f3.f3, .int .i64 x.f3.f4, .int .i64 x.f3.f5] := ⟨[.string x.f0], [.int .i64 x.f1, .int .i64 x.f2, .int .i64 x.f3.f0, .int .i64 x.f3.f1, .int .i64 x.f3.f2, .int .i64 x.f3.f3, .int .i64 x.f3.f4, .int .i64 x.f3.f5], rfl, rfl, ⟨[.int .i64 x.f1], [.int .i64 x.f2, .int .i64 x.f3.f0, .int .i64 x.f3.f1, .int .i64 x.f3.f2, .int .i64 x.f3.f3, .int .i64 x.f3.f4, .int .i64 x.f3.f5], rfl, rfl, ⟨[.int .i64 x.f2], [.int .i64 x.f3.f0, .int .i64 x.f3.f1, .int .i64 x.f3.f2, .int .i64 x.f3.f3, .int .i64 x.f3.f4, .int .i64 x.f3.f5], rfl, rfl, (k64_mkM w base ok x.f3 )⟩⟩⟩
def rd_T68 (xs : List S68) (i : Int) : S68 := xs.getD i.toNat z68
theorem at_T68 {w : World} {A : Option Addr} {n : Nat} {xs : List S68} (h : Kd.C k68 w A n xs) (i : Int) (h0 : 0 ≤ i) (h1 : i < n) : ∃ ad , A = some ad ∧ w.cell? (ad.add (i.toNat * 9)) = some (.string (rd_T68 xs i).f0) ∧ w.cell? ⟨(ad.add (i.toNat * 9)).block, (ad.add (i.toNat * 9)).off + 1, none⟩ = some (.int .i64 (rd_T68 xs i).f1) ∧ w.cell? ⟨(ad.add (i.toNat * 9)).block, (ad.add (i.toNat * 9)).off + 2, none⟩ = some (.int .i64 (rd_T68 xs i).f2) ∧ w.cell? ⟨(ad.add (i.toNat * 9)).block, (ad.add (i.toNat * 9)).off + 3, none⟩ = some (.int .i64 (rd_T68 xs i).f3.f0) ∧ w.cell? ⟨(ad.add (i.toNat * 9)).block, (ad.add (i.toNat * 9)).off + 4, none⟩ = some (.int .i64 (rd_T68 xs i).f3.f1) ∧ w.cell? ⟨(ad.add (i.toNat * 9)).block, (ad.add (i.toNat * 9)).off + 5, none⟩ = some (.int .i64 (rd_T68 xs i).f3.f2) ∧ w.cell? ⟨(ad.add (i.toNat * 9)).block, (ad.add (i.toNat * 9)).off + 6, none⟩ = some (.int .i64 (rd_T68 xs i).f3.f3) ∧ w.cell? ⟨(ad.add (i.toNat * 9)).block, (ad.add (i.toNat * 9)).off + 7, none⟩ = some (.int .i64 (rd_T68 xs i).f3.f4) ∧ w.cell? ⟨(ad.add (i.toNat * 9)).block, (ad.add (i.toNat * 9)).off + 8, none⟩ = some (.int .i64 (rd_T68 xs i).f3.f5) := by
 obtain ⟨ad, c, e, _, hK, hc0⟩ := Kd.C_get h z68 i h0 h1
 have hc : ∀ j u, c[j]? = some u → w.cell? (ad.add (i.toNat * 9 + j)) = some u := hc0
 obtain rfl := k68_open hK
 exact ⟨ad, e, hc 0 _ rfl, by rw [← add_field _ _ 1 (by omega)]; exact hc 1 _ rfl, by rw [← add_field _ _ 2 (by omega)]; exact hc 2 _ rfl, by rw [← add_field _ _ 3 (by omega)]; exact hc 3 _ rfl, by rw [← add_field _ _ 4 (by omega)]; exact hc 4 _ rfl, by rw [← add_field _ _ 5 (by omega)]; exact hc 5 _ rfl, by rw [← add_field _ _ 6 (by omega)]; exact hc 6 _ rfl, by rw [← add_field _ _ 7 (by omega)]; exact hc 7 _ rfl, by rw [← add_field _ _ 8 (by omega)]; exact hc 8 _ rfl⟩
structure S36 where
 f0 : Int
 f1 : (List S66)
 f2 : (List S68)
def k36 : Kd S36 := Kd.iso (Kd.pair (Kd.int .i64) (Kd.pair (Kd.slice 66 k66) (Kd.slice 68 k68))) (fun x : S36 => (x.f0, x.f1, x.f2))
theorem k36_open {w : World} {x : S36} {cs : List Value} (h : k36.K w x cs) : ∃ A1 c1 A2 c2, cs = [.int .i64 x.f0, .slice A1 x.f1.length c1, .slice A2 x.f2.length c2] ∧ x.f1.length ≤ c1 ∧ k66.C w A1 x.f1.length x.f1 ∧ x.f2.length ≤ c2 ∧ k68.C w A2 x.f2.length x.f2 := by
 obtain ⟨_, _, rfl, rfl, ⟨_, _, rfl, ⟨A1, c1, rfl, l1, g1⟩, ⟨A2, c2, rfl, l2, g2⟩⟩⟩ := h
 exact ⟨A1, c1, A2, c2, rfl, l1, g1, l2, g2⟩
structure S42 where
 f0 : S28
 f1 : (List Int)
 f2 : (List Int)
 f3 : (List Int)
def wf64 (x : S64) : Prop := (Lit.int .i64 x.f0).wf = true ∧ (Lit.int .i64 x.f1).wf = true ∧ (Lit.int .i64 x.f2).wf = true ∧ (Lit.int .i64 x.f3).wf = true ∧ (Lit.int .i64 x.f4).wf = true ∧ (Lit.int .i64 x.f5).wf = true
def wf66 (x : S66) : Prop := x.f0.size ≤ maxLen ∧ (Lit.int .i64 x.f1).wf = true ∧ (Lit.int .i64 x.f2).wf = true ∧ wf64 x.f3
def wf68 (x : S68) : Prop := x.f0.size ≤ maxLen ∧ (Lit.int .i64 x.f1).wf = true ∧ (Lit.int .i64 x.f2).wf = true ∧ wf64 x.f3
def wf36 (x : S36) : Prop := (Lit.int .i64 x.f0).wf = true ∧ (x.f1.length ≤ maxLen ∧ ∀ y2 ∈ x.f1, wf66 y2) ∧ (x.f2.length ≤ maxLen ∧ ∀ y2 ∈ x.f2, wf68 y2)
def computusref08_Numbers.l0 : Nat → List Int → List Int → Int → Option (Bool)
 | 0, _, _, _ => none
 | k + 1, x0, x1, x5 => if x5 < (x0.length : Int) then (if 0 ≤ x5 then (if x5 < (x1.length : Int) then (if (rd x0 x5) = (rd x1 x5) then (computusref08_Numbers.l0 k x0 x1 (wrap64 (x5 + 1))) else (some false)) else (none)) else (none)) else (some true)
def computusref08_Numbers.f (k : Nat) (l0 : List Int) (l1 : List Int) : Option (Bool) := if (l0.length : Int) = (l1.length : Int) then (computusref08_Numbers.l0 k l0 l1 0) else (some false)
theorem computusref08_Numbers.mono_l : ∀ k, (∀ y0 y1 y2, LeO (computusref08_Numbers.l0 k y0 y1 y2) (computusref08_Numbers.l0 (k + 1) y0 y1 y2))
 | 0 => fun _ _ _ r h => by simp [computusref08_Numbers.l0] at h
 | k + 1 => by
  have ih0 := computusref08_Numbers.mono_l k
  ·intro y0 y1 y2
   unfold computusref08_Numbers.l0
   repeat' first | (with_reducible first | exact ih0 _ _ _ | exact lr_ _ | exact ln_ _ | refine li_ ?_ ?_ | refine lb_ ?_ fun _ => ?_) | exact ln_ _ | refine li_ ?_ ?_ | refine lb_ ?_ fun _ => ?_
theorem computusref08_Numbers.mono : ∀ a0 a1 k, LeO (computusref08_Numbers.f k a0 a1) (computusref08_Numbers.f (k + 1) a0 a1) := by
 intro a0 a1 k
 have ih0 := computusref08_Numbers.mono_l k
 unfold computusref08_Numbers.f
 repeat' first | (with_reducible first | exact ih0 _ _ _ | exact lr_ _ | exact ln_ _ | refine li_ ?_ ?_ | refine lb_ ?_ fun _ => ?_) | exact ln_ _ | refine li_ ?_ ?_ | refine lb_ ?_ fun _ => ?_
theorem computusref08_Numbers.calls (k : Nat) (A0 : Option Addr) (c0 : Nat) (l0 : List Int) (A1 : Option Addr) (c1 : Nat) (l1 : List Int) (r : Bool) (w : World) (hr0 : Kd.C (Kd.int .i64) w A0 l0.length l0) (hc0 : l0.length ≤ c0) (hr1 : Kd.C (Kd.int .i64) w A1 l1.length l1) (hc1 : l1.length ≤ c1) (h : computusref08_Numbers.f k l0 l1 = some r) :
  Calls Try.prog 27 #[.slice A0 l0.length c0, .slice A1 l1.length c1] w fun e w' => e = .returned (.bool r) ∧ Drawn0 w w' := by
 have HR0 := am_ hr0
 have HC0 := am_ hc0
 clear hr0 hc0
 have HR1 := am_ hr1
 have HC1 := am_ hc1
 clear hr1 hc1
 have H := h
 clear h
 unfold computusref08_Numbers.f at H
 by_cases c3 : (l0.length : Int) = (l1.length : Int)
 rotate_left
 ·rw [if_neg c3] at H
  have c3b0 : ((l0.length : Int) == (l1.length : Int)) = false := beq_eq_false_iff_ne.mpr c3
  have c3b1 : ((l0.length : Int) != (l1.length : Int)) = true := bne_iff_ne.mpr c3
  have c3b2 : (l0.length == l1.length) = false := by first | simpa using c3 | (simp at c3 ⊢; omega)
  obtain rfl := Option.some.inj H
  go_enter Try.func27, Try.ntmps27
  go_wp2
  repeat (go_quiet (fail); try go_wp2)
  go_ret
  exact ⟨by first | rfl | (simp; done) | (simp [*]; done), by repeat (first | exact Drawn0.refl _ | apply Drawn0.step)⟩
 rw [if_pos c3] at H
 have c3b0 : ((l0.length : Int) == (l1.length : Int)) = true := beq_iff_eq.mpr c3
 have c3b1 : ((l0.length : Int) != (l1.length : Int)) = false := bne_eq_false_iff_eq.mpr c3
 have c3b2 : (l0.length == l1.length) = true := by first | simpa using c3 | (simp at c3 ⊢; omega)
 clear c3
 have H' := am_ H
 clear H
 go_enter Try.func27, Try.ntmps27
 go_wp2
 repeat (go_quiet (fail); try go_wp2)
 go_loopg [5] k (fun kq v5 w' => ∃ (x5_1 : Int), v5 = .int .i64 x5_1 ∧ Aside0 (computusref08_Numbers.l0 kq l0 l1 x5_1 = some r) ∧ Aside0 (kq ≤ k) ∧ Drawn0 w w')
 case atStart => exact ⟨(0), rs_, H', ⟨Nat.le_refl _⟩, by repeat (first | exact Drawn0.refl _ | apply Drawn0.step)⟩
 case round =>
  clear H'
  obtain ⟨x5_1, rfl, HA, HK1, ⟨m1, rfl⟩⟩ := hrel
  cases gk with
  | zero => exact absurd HA.out (by simp [computusref08_Numbers.l0])
  | succ k1 =>
   have H := HA.out
   clear HA
   simp only [computusref08_Numbers.l0] at H
   by_cases c4 : x5_1 < (l0.length : Int)
   rotate_left
   ·rw [if_neg c4] at H
    have c4b0 : decide (x5_1 < (l0.length : Int)) = false := decide_eq_false c4
    clear c4
    obtain rfl := Option.some.inj H
    go_wp2
    repeat (go_quiet (fail); try go_wp2)
    go_ret
    exact ⟨by first | rfl | (simp; done) | (simp [*]; done), by repeat (first | exact Drawn0.refl _ | apply Drawn0.step)⟩
   rw [if_pos c4] at H
   have c4b0 : decide (x5_1 < (l0.length : Int)) = true := decide_eq_true c4
   clear c4
   by_cases c5 : 0 ≤ x5_1
   rotate_left
   ·rw [if_neg c5] at H
    exact absurd H (by simp)
   rw [if_pos c5] at H
   have c5b0 : decide (0 ≤ x5_1) = true := decide_eq_true c5
   clear c5
   by_cases c6 : x5_1 < (l1.length : Int)
   rotate_left
   ·rw [if_neg c6] at H
    exact absurd H (by simp)
   rw [if_pos c6] at H
   have c6b0 : decide (x5_1 < (l1.length : Int)) = true := decide_eq_true c6
   clear c6
   by_cases c7 : (rd l0 x5_1) = (rd l1 x5_1)
   rotate_left
   ·rw [if_neg c7] at H
    have c7b0 : ((rd l0 x5_1) == (rd l1 x5_1)) = false := beq_eq_false_iff_ne.mpr c7
    have c7b1 : ((rd l0 x5_1) != (rd l1 x5_1)) = true := bne_iff_ne.mpr c7
    obtain rfl := Option.some.inj H
    have p152 : 0 ≤ (x5_1 : Int) := of_decide_eq_true as_
    have q152 : x5_1 < (l0.length : Int) := of_decide_eq_true as_
    obtain ⟨ad152, e152, hx152_0⟩ := Kd.at_int HR0.out x5_1 p152 q152
    cases e152
    replace p152 := eq_true p152
    replace q152 := eq_true q152
    have p153 : 0 ≤ (x5_1 : Int) := of_decide_eq_true as_
    have q153 : x5_1 < (l1.length : Int) := of_decide_eq_true as_
    obtain ⟨ad153, e153, hx153_0⟩ := Kd.at_int HR1.out x5_1 p153 q153
    cases e153
    replace p153 := eq_true p153
    replace q153 := eq_true q153
    go_wp2
    repeat (go_quiet (fail); try go_wp2)
    go_ret
    exact ⟨by first | rfl | (simp; done) | (simp [*]; done), by repeat (first | exact Drawn0.refl _ | apply Drawn0.step)⟩
   rw [if_pos c7] at H
   have c7b0 : ((rd l0 x5_1) == (rd l1 x5_1)) = true := beq_iff_eq.mpr c7
   have c7b1 : ((rd l0 x5_1) != (rd l1 x5_1)) = false := bne_eq_false_iff_eq.mpr c7
   clear c7
   have H' := am_ H
   clear H
   have p152 : 0 ≤ (x5_1 : Int) := of_decide_eq_true as_
   have q152 : x5_1 < (l0.length : Int) := of_decide_eq_true as_
   obtain ⟨ad152, e152, hx152_0⟩ := Kd.at_int HR0.out x5_1 p152 q152
   cases e152
   replace p152 := eq_true p152
   replace q152 := eq_true q152
   have p153 : 0 ≤ (x5_1 : Int) := of_decide_eq_true as_
   have q153 : x5_1 < (l1.length : Int) := of_decide_eq_true as_
   obtain ⟨ad153, e153, hx153_0⟩ := Kd.at_int HR1.out x5_1 p153 q153
   cases e153
   replace p153 := eq_true p153
   replace q153 := eq_true q153
   go_wp2
   repeat (go_quiet (fail); try go_wp2)
   go_roundg k1
   case measure => have := HK1.out; omega
   case rel => exact ⟨(wrap64 (x5_1 + 1)), rs_, H', ⟨by have := HK1.out; omega⟩, by repeat (first | exact Drawn0.refl _ | apply Drawn0.step)⟩
theorem eqA28 (d : Nat) (w : World) (x0 y0 : Int) (x1 y1 : Int) (x2 y2 : Int) (x3 y3 : ByteArray) :
  (Op.equalIn (d + 2) 28 (.agg #[.int .i64 x0, .int .i64 x1, .int .i64 x2, .string x3]) (.agg #[.int .i64 y0, .int .i64 y1, .int .i64 y2, .string y3])).run Try.prog w = .ok (x0 == y0 && (x1 == y1 && (x2 == y2 && (x3.toList == y3.toList)))) w := by
 refine eqA_of Try.underlying28 (by kernel_rfl) ?_
 refine eqf_cons (by rfl) (by go_simp; rfl) (by go_simp; rfl) (by go_simp) ?_
 refine eqf_cons (by rfl) (by go_simp; rfl) (by go_simp; rfl) (by go_simp) ?_
 refine eqf_cons (by rfl) (by go_simp; rfl) (by go_simp; rfl) (by go_simp) ?_
 exact eqf_last (by rfl) (by go_simp; rfl) (by go_simp; rfl) (by go_simp)
-- NOT PRINTED: function 38 (occurrence_policies)
def occurrence_Free.f (a0_0 : Int) (l0_1 : List (S66)) (l0_2 : List (S68)) (a1_0 : Int) (a1_1 : Int) (a1_2 : Int) (a1_3 : ByteArray) (l1_4 : List Int) (l1_5 : List Int) (l1_6 : List Int) : Option (Bool) := some (decide (a1_2 > a0_0))
theorem occurrence_Free.calls (a0_0 : Int) (A0_1 : Option Addr) (c0_1 : Nat) (l0_1 : List (S66)) (A0_2 : Option Addr) (c0_2 : Nat) (l0_2 : List (S68)) (a1_0 : Int) (a1_1 : Int) (a1_2 : Int) (a1_3 : ByteArray) (A1_4 : Option Addr) (c1_4 : Nat) (l1_4 : List Int) (A1_5 : Option Addr) (c1_5 : Nat) (l1_5 : List Int) (A1_6 : Option Addr) (c1_6 : Nat) (l1_6 : List Int) (r : Bool) (w : World) (hr0_1 : Kd.C k66 w A0_1 l0_1.length l0_1) (hc0_1 : l0_1.length ≤ c0_1) (hr0_2 : Kd.C k68 w A0_2 l0_2.length l0_2) (hc0_2 : l0_2.length ≤ c0_2) (hr1_4 : Kd.C (Kd.int .i64) w A1_4 l1_4.length l1_4) (hc1_4 : l1_4.length ≤ c1_4) (hr1_5 : Kd.C (Kd.int .i64) w A1_5 l1_5.length l1_5) (hc1_5 : l1_5.length ≤ c1_5) (hr1_6 : Kd.C (Kd.int .i64) w A1_6 l1_6.length l1_6) (hc1_6 : l1_6.length ≤ c1_6) (h : occurrence_Free.f a0_0 l0_1 l0_2 a1_0 a1_1 a1_2 a1_3 l1_4 l1_5 l1_6 = some r) :
  Calls Try.prog 21 #[.agg #[.int .i64 a0_0, .slice A0_1 l0_1.length c0_1, .slice A0_2 l0_2.length c0_2], .agg #[.int .i64 a1_0, .int .i64 a1_1, .int .i64 a1_2, .string a1_3, .slice A1_4 l1_4.length c1_4, .slice A1_5 l1_5.length c1_5, .slice A1_6 l1_6.length c1_6]] w fun e w' => e = .returned (.bool r) ∧ Below w.heap.size w w' := by
 have hu36 := Try.underlying36
 have hu42 := Try.underlying42
 have HR0_1 := am_ hr0_1
 have HC0_1 := am_ hc0_1
 clear hr0_1 hc0_1
 have HR0_2 := am_ hr0_2
 have HC0_2 := am_ hc0_2
 clear hr0_2 hc0_2
 have HR1_4 := am_ hr1_4
 have HC1_4 := am_ hc1_4
 clear hr1_4 hc1_4
 have HR1_5 := am_ hr1_5
 have HC1_5 := am_ hc1_5
 clear hr1_5 hc1_5
 have HR1_6 := am_ hr1_6
 have HC1_6 := am_ hc1_6
 clear hr1_6 hc1_6
 have HB := am_ (Below.refl w.heap.size w)
 have H := h
 clear h
 unfold occurrence_Free.f at H
 obtain rfl := Option.some.inj H
 go_enter Try.func21, Try.ntmps21
 go_wp2_with (first | ((with_reducible refine gate_dst (N := 2) rfl ?_); refine bx_ (w := w) (N := 2) (cs := #[.int .i64 a0_0, .slice A0_1 l0_1.length c0_1, .slice A0_2 l0_2.length c0_2]) (t := 36) ?_; intro gb150 w3 BK150 n0_ GW150 GE150; clear HB; have HB := n0_; clear n0_) | ((with_reducible refine gate_dst (N := 3) rfl ?_); refine be_ (N := 3) (cs := #[.int .i64 a1_0, .int .i64 a1_1, .int .i64 a1_2, .string a1_3, .slice A1_4 l1_4.length c1_4, .slice A1_5 l1_5.length c1_5, .slice A1_6 l1_6.length c1_6]) (t := 42) ?_; intro gb151 hg w4 hbox hb; have BK151 := am_ (hbox); have GW151 := gw_ (w := w) hg; have GE151 := gw_ (w := w) hg; replace HB := bt_ hb; have NB150_151 := ne_ hg BK150; have NB151_150 := nf_ hg BK150; replace BK150 := bw_ BK150 hb; clear hb hbox hg; have hnb5 := NB151_150.out; have hnc5 := NB150_151.out; obtain ⟨hcz6_0, hcz6_1, hcz6_2, hcz6_3, hcz6_4, hcz6_5, hcz6_6⟩ := cz7_ BK151.out; obtain ⟨hfz6_0, hfz6_1, hfz6_2, hfz6_3, hfz6_4, hfz6_5, hfz6_6⟩ := fz7_ BK151.out; obtain ⟨hcz7_0, hcz7_1, hcz7_2⟩ := cz3_ BK150.out; obtain ⟨hfz7_0, hfz7_1, hfz7_2⟩ := fz3_ BK150.out))
 go_ret
 exact rt_
end Go.Proofs.Ytopfjjdkffdjpaa.Q
end
section
namespace Go.Proofs.Ytopfjjdkffdjpaa.Q
open Go.RowKit Go.Proofs.YtopfjjdkffdjpaaW.PrintWords Go.Proofs.YtopfjjdkffdjpaaW.PrintLast Go.Proofs.YtopfjjdkffdjpaaW.PrintMore
abbrev encI : Int → Value := fun n => .int .i64 n
theorem encI_get (l : List Int) (q : Nat) : (encs encI l)[q]? = (l[q]?).map encI := by simp [encs]
theorem ints_cells {w : World} {ad : Addr} {l : List Int} (h : Kd.C (Kd.int .i64) w (some ad) l.length l) (q : Nat) (u : Value) (hq : (encs encI l)[q]? = some u) : w.cell? (ad.add q) = some u := by
 rw [encI_get] at hq
 obtain ⟨x, hx, rfl⟩ := Option.map_eq_some_iff.1 hq
 have hlt : q < l.length := (List.getElem?_eq_some_iff.1 hx).1
 obtain ⟨ad2, e2, hc⟩ := h.2.2 (by omega)
 obtain rfl := Option.some.inj e2
 obtain ⟨c, hs, hr, hcell⟩ := hc q _ hx
 have ec : c = [.int .i64 x] := hr
 have := hcell 0 (.int .i64 x) (by rw [ec]; rfl)
 have e1 : q * (Kd.int .i64).sz + 0 = q := by rw [show (Kd.int .i64).sz = 1 from rfl]; omega
 rwa [e1] at this
theorem encI_one (l : List Int) : ∀ u ∈ encs encI l, u.oneCell' = true := by
 intro u hu
 simp only [encs, List.mem_map] at hu
 obtain ⟨x, _, rfl⟩ := hu
 rfl
theorem cloneI_some (ad : Addr) (c0 : Nat) (l : List Int) (w : World) (hr : Kd.C (Kd.int .i64) w (some ad) l.length l) (hb : l.length ≤ 1000000000) :
  Calls Try.prog 40 #[.slice (some ad) l.length c0] w fun e w' => ∃ v, e = .returned v ∧ Kd.R (Kd.int .i64) 3 w' w.heap.size (fun _ => True) v l ∧ Below w.heap.size w w' := by
 have HN := Aside0.mk (fun q u => ints_cells hr q u)
 obtain ⟨i0, hi0, hz0, hz1, hz2⟩ : ∃ i0, Try.prog.info? 3 = some i0 ∧ i0.zero = some (.int .i64 0) ∧ i0.size = 1 ∧ i0.bytes = 8 := by
  have hinf := info3
  cases hq : Try.prog.info? 3 with
  | none => rw [hq] at hinf; simp at hinf
  | some i0 =>
   rw [hq] at hinf
   simp only [Option.map_some, Option.some.injEq, Prod.mk.injEq] at hinf
   exact ⟨i0, rfl, hinf.1, hinf.2.1, hinf.2.2⟩
 have q26 : ∀ (w : World) (a : Option Addr) (n c n' c' : Nat), (binOp .eql 40 (.slice a n c) (.slice none n' c')).run Try.prog w = .ok (.bool a.isNone) w := fun w a n c n' c' => Lib.run_eql_slice_nil w _ _ a n c n' c' Try.underlying40
 have HI := Aside0.mk (And.intro hi0 (And.intro hz0 (And.intro hz1 hz2)))
 have HB := Aside0.mk hb
 clear hr hi0 hz0 hz1 hz2 hb
 go_enter Try.func40, Try.ntmps40
 go_wp2_with (at_builtin; refine wpList_append_own _ rfl _ _ 40 rfl w.heap.size 3 i0 _ 1 8 Try.underlying40 HI.out.1 HI.out.2.1 HI.out.2.2.1 HI.out.2.2.2 rfl (by omega) _ _ _ rfl (World.ownsRow_made w #[] 0 (Nat.le_refl _) (Nat.zero_le _) (by simp)) ad l.length c0 (encs encI l) rfl ?qc1 ?qc2 ?qc3 ?qc4 ?qc5 ?qc6 ?_)
 case qc1 => rw [encs_length]; omega
 case qc2 =>
  intro j u hj
  exact Lib.cell?_alloc_some _ (HN.out j u hj)
 case qc3 => exact encI_one l
 case qc4 => have := HB.out; simp only [maxLen]; omega
 case qc5 => have := HB.out; omega
 case qc6 => simp
 intro v' w1 hown hgrow hnil
 have H1 := Aside0.mk (And.intro hown hgrow)
 clear hown hgrow hnil
 go_wp2_with fail
 go_ret
 obtain ⟨hown, hgrow⟩ := H1.out
 have hB : Below w.heap.size w w1 := ((Below.refl _ w).alloc (Nat.le_refl _) _).grown hgrow (by simp) (by intro k hk; simp [Value.ownBlock] at hk; omega)
 exact ⟨v', rfl, Kd.R_of_own (by simpa using hown) (fun _ _ => trivial), hB⟩
theorem cloneI_none (n c : Nat) (w : World) : Calls Try.prog 40 #[.slice none n c] w fun e w' => e = .returned (.slice none 0 0) ∧ w' = w := by
 have q26 : ∀ (w : World) (a : Option Addr) (n c n' c' : Nat), (binOp .eql 40 (.slice a n c) (.slice none n' c')).run Try.prog w = .ok (.bool a.isNone) w := fun w a n c n' c' => Lib.run_eql_slice_nil w _ _ a n c n' c' Try.underlying40
 go_enter Try.func40, Try.ntmps40
 go_wp2
 go_ret
 exact ⟨rfl, rfl⟩
def slices_Clone_int_int.f (l0 : List Int) : Option (List Int) := if l0.length ≤ 1000000000 then some l0 else none
theorem slices_Clone_int_int.calls (A0 : Option Addr) (c0 : Nat) (l0 : List Int) (r : List Int) (w : World) (hr0 : Kd.C (Kd.int .i64) w A0 l0.length l0) (hc0 : l0.length ≤ c0) (h : slices_Clone_int_int.f l0 = some r) :
  Calls Try.prog 40 #[.slice A0 l0.length c0] w fun e w' => ∃ v0_ : Value, e = .returned v0_ ∧ Kd.R (Kd.int .i64) 3 w' w.heap.size (fun _ => True) v0_ r ∧ Below w.heap.size w w' := by
 unfold slices_Clone_int_int.f at h
 split at h
 ·rename_i hb
  obtain rfl := Option.some.inj h
  cases A0 with
  | none =>
   obtain rfl : l0 = [] := by
    cases l0 with
    | nil => rfl
    | cons x l =>
     obtain ⟨ad, e, _⟩ := hr0.2.2 (by simp)
     simp at e
   exact (cloneI_none _ _ w).mono fun e w' ⟨h1, h2⟩ => ⟨_, h1, Kd.R_nil _ _ _ _ _, by rw [h2]; exact Below.refl _ _⟩
  | some ad => exact cloneI_some ad c0 l0 w hr0 hb
 ·simp at h
end Go.Proofs.Ytopfjjdkffdjpaa.Q
end
section
namespace Go.Proofs.Ytopfjjdkffdjpaa.Srt
theorem rev_ind {α : Type} {P : List α → Prop} (nil : P []) (snoc : ∀ l x, P l → P (l ++ [x])) (l : List α) : P l := by
 have h : ∀ m : List α, P m.reverse := by
  intro m
  induction m with
  | nil => exact nil
  | cons x m ih => rw [List.reverse_cons]; exact snoc _ _ ih
 have := h l.reverse
 rwa [List.reverse_reverse] at this
section
variable {α : Type} (p : α → α → Bool)
def ins (x : α) : List α → List α
 | [] => [x]
 | y :: ys => if p x y then x :: y :: ys else y :: ins x ys
def isort (l : List α) : List α := l.foldl (fun out x => ins p x out) []
def mrg : List α → List α → List α
 | [], bs => bs
 | a :: as0, [] => a :: as0
 | a :: as0, b :: bs => if p b a then b :: mrg (a :: as0) bs else a :: mrg as0 (b :: bs)
termination_by a b => a.length + b.length
theorem mrg_nil (as0 : List α) : mrg p as0 [] = as0 := by cases as0 <;> simp [mrg]
theorem nil_mrg (bs : List α) : mrg p [] bs = bs := by simp [mrg]
theorem mrg_cons (a b : α) (as0 bs : List α) : mrg p (a :: as0) (b :: bs) = if p b a then b :: mrg p (a :: as0) bs else a :: mrg p as0 (b :: bs) := by rw [mrg]
theorem mrg_one (x : α) : ∀ as0 : List α, mrg p as0 [x] = ins p x as0
 | [] => by rw [nil_mrg]; rfl
 | a :: as0 => by
  rw [mrg_cons, ins]
  by_cases h : p x a = true
  ·rw [if_pos h, if_pos h, mrg_nil]
  ·rw [if_neg h, if_neg h, mrg_one x as0]
theorem length_ins (x : α) : ∀ l : List α, (ins p x l).length = l.length + 1
 | [] => rfl
 | y :: ys => by
  rw [ins]
  split
  ·rfl
  ·rw [List.length_cons, length_ins x ys, List.length_cons]
theorem length_mrg : ∀ (as0 bs : List α), (mrg p as0 bs).length = as0.length + bs.length
 | [], bs => by rw [nil_mrg]; simp
 | a :: as0, [] => by rw [mrg_nil]; rfl
 | a :: as0, b :: bs => by
  rw [mrg_cons]
  split
  ·rw [List.length_cons, length_mrg (a :: as0) bs]; simp only [List.length_cons]; omega
  ·rw [List.length_cons, length_mrg as0 (b :: bs)]; simp only [List.length_cons]; omega
termination_by as0 bs => as0.length + bs.length
theorem isort_snoc (l : List α) (x : α) : isort p (l ++ [x]) = ins p x (isort p l) := by unfold isort; rw [List.foldl_append]; rfl
theorem length_isort (l : List α) : (isort p l).length = l.length := by
 induction l using rev_ind with
 | nil => rfl
 | snoc l x ih => rw [isort_snoc, length_ins, ih]; simp
theorem mem_ins {x z : α} : ∀ {l : List α}, z ∈ ins p x l ↔ z = x ∨ z ∈ l
 | [] => by simp [ins]
 | y :: ys => by
  rw [ins]
  split
  ·simp
  ·rw [List.mem_cons, mem_ins (l := ys), List.mem_cons]
   constructor
   ·rintro (h | h | h)
    ·exact .inr (.inl h)
    ·exact .inl h
    ·exact .inr (.inr h)
   ·rintro (h | h | h)
    ·exact .inr (.inl h)
    ·exact .inl h
    ·exact .inr (.inr h)
theorem ins_perm (x : α) : ∀ l : List α, (ins p x l).Perm (x :: l)
 | [] => List.Perm.refl _
 | y :: ys => by
  rw [ins]
  split
  ·exact List.Perm.refl _
  ·exact ((ins_perm x ys).cons y).trans (List.Perm.swap x y ys)
theorem isort_perm (l : List α) : (isort p l).Perm l := by
 induction l using rev_ind with
 | nil => exact List.Perm.refl _
 | snoc l x ih =>
  rw [isort_snoc]
  exact (ins_perm p x _).trans ((ih.cons x).trans (List.perm_append_singleton x l).symm)
structure Wo : Prop where
 asymm : ∀ x y, p x y = true → p y x = false
 neg : ∀ x y z, p x y = false → p y z = false → p x z = false
def Srtd (l : List α) : Prop := l.Pairwise fun x y => p y x = false
variable {p} (W : Wo p)
include W
theorem Wo.trans {x y z : α} (h1 : p x y = true) (h2 : p y z = true) : p x z = true := by
 cases h : p x z with
 | true => rfl
 | false =>
  have h3 := W.asymm _ _ h2
  have h4 := W.neg x z y h h3
  rw [h4] at h1
  exact absurd h1 (by simp)
theorem ins_srtd (x : α) : ∀ {l : List α}, Srtd p l → Srtd p (ins p x l)
 | [], h => List.pairwise_singleton _ _
 | y :: ys, h => by
  unfold Srtd at h ⊢
  rw [List.pairwise_cons] at h
  rw [ins]
  split
  ·rename_i hx
   rw [List.pairwise_cons]
   refine ⟨fun z hz => ?_, List.pairwise_cons.2 h⟩
   have hyx := W.asymm _ _ hx
   rcases List.mem_cons.1 hz with rfl | hz
   ·exact hyx
   ·exact W.neg _ _ _ (h.1 z hz) hyx
  ·rename_i hx
   rw [List.pairwise_cons]
   refine ⟨fun z hz => ?_, ins_srtd x h.2⟩
   rcases (mem_ins p).1 hz with rfl | hz
   ·simpa using hx
   ·exact h.1 z hz
theorem isort_srtd (l : List α) : Srtd p (isort p l) := by
 induction l using rev_ind with
 | nil => exact List.Pairwise.nil
 | snoc l x ih => rw [isort_snoc]; exact ins_srtd W x ih
theorem ins_mrg (x : α) : ∀ (as0 bs : List α), ins p x (mrg p as0 bs) = mrg p as0 (ins p x bs)
 | [], bs => by rw [nil_mrg, nil_mrg]
 | a :: as0, [] => by rw [mrg_nil, ← mrg_one]; rfl
 | a :: as0, b :: bs => by
  rw [mrg_cons]
  by_cases h : p b a = true
  ·rw [if_pos h]
   by_cases hx : p x b = true
   ·have h1 := W.trans hx h
    rw [ins, if_pos hx, ins, if_pos hx, mrg_cons, if_pos h1, mrg_cons, if_pos h]
   ·rw [ins, if_neg hx, ins_mrg x (a :: as0) bs, ins, if_neg hx, mrg_cons, if_pos h]
  ·rw [if_neg h]
   by_cases hx : p x a = true
   ·have h1 : p x b = true := by
     cases h2 : p x b with
     | true => rfl
     | false =>
      have := W.neg x b a h2 (by simpa using h)
      rw [this] at hx
      exact absurd hx (by simp)
    rw [ins, if_pos hx, ins, if_pos h1, mrg_cons, if_pos hx, mrg_cons, if_neg h]
   ·rw [ins, if_neg hx, ins_mrg x as0 (b :: bs)]
    rw [ins]
    split
    ·rw [mrg_cons, if_neg hx]
    ·rw [mrg_cons, if_neg h]
termination_by as0 bs => as0.length + bs.length
theorem isort_append (as0 : List α) (bs : List α) : isort p (as0 ++ bs) = mrg p (isort p as0) (isort p bs) := by
 induction bs using rev_ind with
 | nil => rw [List.append_nil]; exact (mrg_nil p _).symm
 | snoc bs x ih => rw [← List.append_assoc, isort_snoc, isort_snoc, ih, ins_mrg W]
omit W
theorem mrg_split : ∀ (A1 B1 A2 B2 : List α), (∀ a ∈ A1, ∀ b ∈ B2, p b a = false) → (∀ a ∈ A2, ∀ b ∈ B1, p b a = true) → mrg p (A1 ++ A2) (B1 ++ B2) = mrg p A1 B1 ++ mrg p A2 B2
 | [], [], A2, B2, _, _ => by rw [nil_mrg]; rfl
 | [], b :: bs, [], B2, _, _ => by rw [nil_mrg, List.nil_append, nil_mrg, nil_mrg]
 | [], b :: bs, a :: A2, B2, h1, h2 => by
  have ih := mrg_split [] bs (a :: A2) B2 h1 (fun a' ha' b' hb' => h2 a' ha' b' (by simp [hb']))
  rw [List.nil_append, List.cons_append, mrg_cons, if_pos (h2 a (by simp) b (by simp)), nil_mrg]
  rw [List.nil_append, nil_mrg] at ih
  rw [ih]
  rfl
 | a :: as0, [], A2, [], _, _ => by rw [List.append_nil, mrg_nil, mrg_nil, mrg_nil]
 | a :: as0, [], A2, b :: B2, h1, h2 => by
  have ih := mrg_split as0 [] A2 (b :: B2) (fun a' ha' => h1 a' (by simp [ha'])) h2
  rw [List.nil_append, List.cons_append, mrg_cons, if_neg (by rw [h1 a (by simp) b (by simp)]; simp), mrg_nil]
  rw [List.nil_append, mrg_nil] at ih
  rw [ih]
  rfl
 | a :: as0, b :: bs, A2, B2, h1, h2 => by
  rw [List.cons_append, List.cons_append, mrg_cons, mrg_cons]
  split
  ·rw [← List.cons_append, mrg_split (a :: as0) bs A2 B2 h1 (fun a' ha' b' hb' => h2 a' ha' b' (by simp [hb']))]; rfl
  ·rw [← List.cons_append (a := b), mrg_split as0 (b :: bs) A2 B2 (fun a' ha' => h1 a' (by simp [ha'])) h2]; rfl
termination_by A1 B1 => A1.length + B1.length
theorem ins_at (x : α) : ∀ (A B : List α), (∀ y ∈ A, p x y = false) → (∀ y, B.head? = some y → p x y = true) → ins p x (A ++ B) = A ++ x :: B
 | [], [], _, _ => rfl
 | [], b :: bs, _, h => by rw [List.nil_append, ins, if_pos (h b rfl)]; rfl
 | a :: as0, B, h1, h2 => by rw [List.cons_append, ins, if_neg (by rw [h1 a (by simp)]; simp), ins_at x as0 B (fun y hy => h1 y (by simp [hy])) h2]; rfl
theorem one_mrg (x : α) (A B : List α) (h1 : ∀ y ∈ A, p y x = true) (h2 : ∀ y ∈ B, p y x = false) : mrg p [x] (A ++ B) = A ++ x :: B := by
 have := mrg_split (p := p) [] A [x] B (fun a ha => by simp at ha) (fun a ha b hb => by simp at ha; subst ha; exact h1 b hb)
 rw [List.nil_append, nil_mrg] at this
 rw [this]
 congr 1
 cases B with
 | nil => rw [mrg_nil]
 | cons b bs => rw [mrg_cons, if_neg (by rw [h2 b (by simp)]; simp), nil_mrg]
end
section
variable {α : Type}
theorem snoc_cases (l : List α) : l = [] ∨ ∃ B y, l = B ++ [y] := by
 induction l using rev_ind with
 | nil => exact .inl rfl
 | snoc l x ih => exact .inr ⟨l, x, rfl⟩
theorem getD_mid (d : α) (U Z : List α) (x : α) : (U ++ x :: Z).getD U.length d = x := by
 rw [List.getD_eq_getElem?_getD, List.getElem?_append_right (by omega), Nat.sub_self]; rfl
def swp (d : α) (L : List α) (i k : Nat) : List α := (L.set i (L.getD k d)).set k (L.getD i d)
theorem swp_two (d : α) (U V Z : List α) (x y : α) : swp d (U ++ x :: (V ++ y :: Z)) U.length (U.length + 1 + V.length) = U ++ y :: (V ++ x :: Z) := by
 unfold swp
 have e1 : (U ++ x :: (V ++ y :: Z)).getD (U.length + 1 + V.length) d = y := by
  rw [List.getD_eq_getElem?_getD, List.getElem?_append_right (by omega), show U.length + 1 + V.length - U.length = V.length + 1 by omega, List.getElem?_cons_succ, List.getElem?_append_right (by omega), Nat.sub_self]
  rfl
 have e2 : (U ++ x :: (V ++ y :: Z)).getD U.length d = x := by
  rw [List.getD_eq_getElem?_getD, List.getElem?_append_right (by omega), Nat.sub_self]
  rfl
 rw [e1, e2, List.set_append_right _ _ (by omega), Nat.sub_self, List.set_cons_zero, List.set_append_right _ _ (by omega), show U.length + 1 + V.length - U.length = V.length + 1 by omega, List.set_cons_succ, List.set_append_right _ _ (by omega), Nat.sub_self, List.set_cons_zero]
theorem swp_comm (d : α) (L : List α) (i k : Nat) (hi : i < L.length) (hk : k < L.length) : swp d L i k = swp d L k i := by
 unfold swp
 by_cases h : i = k
 ·rw [h]
 ·rw [List.set_comm _ _ h]
end
section
variable {α : Type} (p : α → α → Bool)
def sB (n : Nat) (L : List α) : List α := if h : L.length ≤ n ∨ n = 0 then isort p L else isort p (L.take n) ++ sB n (L.drop n)
termination_by L.length
decreasing_by rw [List.length_drop]; omega
theorem sB_small {n : Nat} {L : List α} (h : L.length ≤ n) : sB p n L = isort p L := by rw [sB, dif_pos (.inl h)]
theorem sB_step {n : Nat} (hn : 0 < n) {L : List α} (h : n ≤ L.length) : sB p n L = isort p (L.take n) ++ sB p n (L.drop n) := by
 by_cases h2 : L.length ≤ n
 ·rw [sB_small p h2, sB_small p (L := L.drop n) (by rw [List.length_drop]; omega), List.take_of_length_le (by omega), List.drop_of_length_le (by omega)]
  exact (List.append_nil _).symm
 ·rw [sB, dif_neg (by omega)]
theorem length_sB {n : Nat} (hn : 0 < n) : ∀ (m : Nat) (L : List α), L.length ≤ m → (sB p n L).length = L.length
 | 0, L, h => by rw [sB_small p (by omega), length_isort]
 | m + 1, L, h => by
  by_cases h2 : n ≤ L.length
  ·rw [sB_step p hn h2, List.length_append, length_isort, length_sB hn m (L.drop n) (by rw [List.length_drop]; omega), List.length_take, List.length_drop]
   omega
  ·rw [sB_small p (by omega), length_isort]
end
end Go.Proofs.Ytopfjjdkffdjpaa.Srt
end
section
namespace Go.Proofs.Ytopfjjdkffdjpaa.Q
open Go.RowKit Go.Proofs.YtopfjjdkffdjpaaW.PrintWords Go.Proofs.YtopfjjdkffdjpaaW.PrintLast Go.Proofs.YtopfjjdkffdjpaaW.PrintMore Go.Proofs.Ytopfjjdkffdjpaa.Srt
structure Sorter {α : Type} (d : α) (p : α → α → Bool) (T : TypeId) (rv : Value) (gl gs : Nat) (St : List α → World → Prop) : Prop where
 mL : ∀ w, Sem.run Try.prog (method 233 T rv "Less") w = .ok (gl, rv) w
 mS : ∀ w, Sem.run Try.prog (method 233 T rv "Swap") w = .ok (gs, rv) w
 eL : ∀ args w, (callFunc gl args).run Try.prog w = .ok (.enter gl args) w
 eS : ∀ args w, (callFunc gs args).run Try.prog w = .ok (.enter gs args) w
 less : ∀ (L : List α) (w : World) (i k : Nat) (vi vk : Int), St L w → i < L.length → k < L.length → vi = i → vk = k → Calls Try.prog gl #[rv, .int .i64 vi, .int .i64 vk] w fun e w' => e = .returned (.bool (p (L.getD i d) (L.getD k d))) ∧ St L w'
 swap : ∀ (L : List α) (w : World) (i k : Nat) (vi vk : Int), St L w → i < L.length → k < L.length → vi = i → vk = k → Calls Try.prog gs #[rv, .int .i64 vi, .int .i64 vk] w fun e w' => e = .returned (.tuple #[]) ∧ St (swp d L i k) w'
section
variable {α : Type} {d : α} {p : α → α → Bool} {T : TypeId} {rv : Value} {gl gs : Nat} {St : List α → World → Prop} (S : Sorter d p T rv gl gs St)
include S
theorem Sorter.swap_two (U V Z : List α) (x y : α) {w : World} {vi vk : Int} (h : St (U ++ x :: (V ++ y :: Z)) w) (hi : vi = (U.length : Int)) (hk : vk = ((U.length + 1 + V.length : Nat) : Int)) :
  Calls Try.prog gs #[rv, .int .i64 vi, .int .i64 vk] w fun e w' => e = .returned (.tuple #[]) ∧ St (U ++ y :: (V ++ x :: Z)) w' := by
 have := S.swap _ w U.length (U.length + 1 + V.length) vi vk h (by simp) (by simp; omega) hi hk
 rwa [swp_two] at this
theorem swapRange_any (P X M Y Q : List α) (w : World) (a b n : Nat) (h : St (P ++ (X ++ (M ++ (Y ++ Q)))) w) (ha : a = P.length) (hb : b = P.length + X.length + M.length) (hn : n = X.length) (hy : n = Y.length) (hz : (P ++ (X ++ (M ++ (Y ++ Q)))).length ≤ 1000000000) :
  Calls Try.prog 76 #[.iface T rv, .int .i64 a, .int .i64 b, .int .i64 n] w fun e w' => e = .returned (.tuple #[]) ∧ St (P ++ (Y ++ (M ++ (X ++ Q)))) w' := by
 have hz2 : a + n + n ≤ 1000000000 ∧ b + n ≤ 1000000000 := by simp at hz; omega
 have H := Aside0.mk h
 have mS := S.mS
 have eS := S.eS
 have F := Aside0.mk (And.intro ha (And.intro hb (And.intro hn hy)))
 have SW := Aside0.mk S
 clear h ha hb hn hy hz S
 obtain ⟨z1, z2⟩ := hz2
 go_enter Try.func76, Try.ntmps76
 go_wp2_with fail
 go_loopg [8] n (fun kq v8 w' => ∃ i : Nat, v8 = .int .i64 i ∧ Aside0 (i + kq = n) ∧ Aside0 (St (P ++ (Y.take i ++ (X.drop i ++ (M ++ (X.take i ++ (Y.drop i ++ Q)))))) w'))
 case atStart => exact ⟨0, rfl, ⟨by omega⟩, by simpa using H⟩
 case round =>
  clear H
  obtain ⟨i, rfl, HI, H⟩ := hrel
  by_cases hi : i < n
  ·obtain ⟨k1, rfl⟩ : ∃ m, gk = m + 1 := ⟨gk - 1, by have := HI.out; omega⟩
   have c1 : decide ((i : Int) < (n : Int)) = true := decide_eq_true (by omega)
   have c1b : decide (i < n) = true := decide_eq_true hi
   obtain ⟨f1, f2, f3, f4⟩ := F.out
   obtain ⟨x, hx⟩ : ∃ x, X.drop i = x :: X.drop (i + 1) := ⟨X[i], by rw [← List.drop_eq_getElem_cons (by omega)]⟩
   obtain ⟨y, hy⟩ : ∃ y, Y.drop i = y :: Y.drop (i + 1) := ⟨Y[i], by rw [← List.drop_eq_getElem_cons (by omega)]⟩
   have hx2 : X.take (i + 1) = X.take i ++ [x] := by
    have e : X[i] = x := by have h2 := List.drop_eq_getElem_cons (l := X) (i := i) (by omega); rw [hx] at h2; injection h2 with h2; exact h2.symm
    rw [List.take_succ_eq_append_getElem (by omega), e]
   have hy2 : Y.take (i + 1) = Y.take i ++ [y] := by
    have e : Y[i] = y := by have h2 := List.drop_eq_getElem_cons (l := Y) (i := i) (by omega); rw [hy] at h2; injection h2 with h2; exact h2.symm
    rw [List.take_succ_eq_append_getElem (by omega), e]
   have H1 : Aside0 (St ((P ++ Y.take i) ++ x :: ((X.drop (i + 1) ++ (M ++ X.take i)) ++ y :: (Y.drop (i + 1) ++ Q))) wr) := ⟨by have h2 := H.out; rw [hx, hy] at h2; simpa using h2⟩
   have H2 : Aside0 (∀ w', St ((P ++ Y.take i) ++ y :: ((X.drop (i + 1) ++ (M ++ X.take i)) ++ x :: (Y.drop (i + 1) ++ Q))) w' → St (P ++ (Y.take (i + 1) ++ (X.drop (i + 1) ++ (M ++ (X.take (i + 1) ++ (Y.drop (i + 1) ++ Q)))))) w') := ⟨fun w' h2 => by rw [hx2, hy2]; simpa using h2⟩
   have l1 : (P ++ Y.take i).length = a + i := by simp; omega
   have l2 : (X.drop (i + 1) ++ (M ++ X.take i)).length + a + 1 = b := by simp; omega
   have L := Aside0.mk (And.intro l1 l2)
   clear hx hy hx2 hy2 f1 f2 f3 f4 H l1 l2
   go_wp2_with (refine Calls.mono (SW.out.swap_two _ _ _ _ _ H1.out (by rw [L.out.1]; omega) (by rw [L.out.1]; have := L.out.2; omega)) ?_; rintro e w2 ⟨rfl, h2⟩; have H3 := Aside0.mk (H2.out _ h2); clear h2 H1 H2)
   go_roundg k1
   case measure => omega
   case rel => exact ⟨i + 1, by go_num, ⟨by have := HI.out; omega⟩, H3⟩
  ·have c1 : decide ((i : Int) < (n : Int)) = false := decide_eq_false (by omega)
   have c1b : decide (i < n) = false := decide_eq_false hi
   obtain ⟨f1, f2, f3, f4⟩ := F.out
   have e1 : Y.take i = Y := List.take_of_length_le (by omega)
   have e2 : X.take i = X := List.take_of_length_le (by omega)
   have e3 : Y.drop i = [] := List.drop_of_length_le (by omega)
   have e4 : X.drop i = [] := List.drop_of_length_le (by omega)
   have H1 : Aside0 (St (P ++ (Y ++ (M ++ (X ++ Q)))) wr) := ⟨by have h2 := H.out; rw [e1, e2, e3, e4] at h2; simpa using h2⟩
   clear e1 e2 e3 e4 f1 f2 f3 f4 H
   go_wp2_with fail
   go_end0
   exact ⟨rfl, H1.out⟩
theorem swapRange_int (P X M Y Q : List α) (w : World) {va vb vn : Int} (h : St (P ++ (X ++ (M ++ (Y ++ Q)))) w) (ha : va = (P.length : Int)) (hb : vb = ((P.length + X.length + M.length : Nat) : Int)) (hn : vn = (X.length : Int)) (hy : X.length = Y.length) (hz : (P ++ (X ++ (M ++ (Y ++ Q)))).length ≤ 1000000000) :
  Calls Try.prog 76 #[.iface T rv, .int .i64 va, .int .i64 vb, .int .i64 vn] w fun e w' => e = .returned (.tuple #[]) ∧ St (P ++ (Y ++ (M ++ (X ++ Q)))) w' := by
 subst ha
 subst hb
 subst hn
 exact swapRange_any S P X M Y Q w _ _ _ h rfl rfl rfl hy hz
theorem rotate_any (P X Y Q : List α) (w : World) (a m b : Nat) (h : St (P ++ (X ++ (Y ++ Q))) w) (ha : a = P.length) (hm : m = P.length + X.length) (hb : b = P.length + X.length + Y.length) (hX : 0 < X.length) (hY : 0 < Y.length) (hz : (P ++ (X ++ (Y ++ Q))).length ≤ 1000000000) :
  Calls Try.prog 63 #[.iface T rv, .int .i64 a, .int .i64 m, .int .i64 b] w fun e w' => e = .returned (.tuple #[]) ∧ St (P ++ (Y ++ (X ++ Q))) w' := by
 have hz2 : b ≤ 1000000000 ∧ a < m ∧ m < b := by simp at hz; omega
 obtain ⟨i0, hi0⟩ : ∃ i0, i0 = X.length := ⟨_, rfl⟩
 obtain ⟨j0, hj0⟩ : ∃ j0, j0 = Y.length := ⟨_, rfl⟩
 have HM := Aside0.mk (show m = a + i0 ∧ b = m + j0 from by omega)
 have G := Aside0.mk (show ∃ (P' X' Y' Q' : List α), X'.length = i0 ∧ Y'.length = j0 ∧ P'.length + i0 = m ∧ P' ++ (Y' ++ (X' ++ Q')) = P ++ (Y ++ (X ++ Q)) ∧ (P' ++ (X' ++ (Y' ++ Q'))).length ≤ 1000000000 ∧ St (P' ++ (X' ++ (Y' ++ Q'))) w from ⟨P, X, Y, Q, hi0.symm, hj0.symm, by omega, rfl, hz, h⟩)
 have b0 : 0 < i0 ∧ 0 < j0 := by omega
 have SW := Aside0.mk S
 obtain ⟨R, hR⟩ : ∃ R, R = P ++ (Y ++ (X ++ Q)) := ⟨_, rfl⟩
 rw [← hR] at G
 rw [← hR]
 obtain ⟨z1, z2, z3⟩ := hz2
 have e1 : (m : Int) - (a : Int) = (i0 : Int) := by have := HM.out; omega
 have e2 : (b : Int) - (m : Int) = (j0 : Int) := by have := HM.out; omega
 clear h ha hm hb hX hY hz S hi0 hj0 hR
 go_enter Try.func63, Try.ntmps63
 go_wp2_with fail
 clear e1 e2
 go_loopg [8, 9] (i0 + j0) (fun kq v8 v9 w' => ∃ i j : Nat, v8 = .int .i64 i ∧ v9 = .int .i64 j ∧ Aside0 (i + j ≤ kq ∧ 0 < i ∧ 0 < j ∧ i ≤ m ∧ m + j ≤ b) ∧ Aside0 (∃ (P' X' Y' Q' : List α), X'.length = i ∧ Y'.length = j ∧ P'.length + i = m ∧ P' ++ (Y' ++ (X' ++ Q')) = R ∧ (P' ++ (X' ++ (Y' ++ Q'))).length ≤ 1000000000 ∧ St (P' ++ (X' ++ (Y' ++ Q'))) w'))
 case atStart => exact ⟨i0, j0, rfl, rfl, ⟨by have := HM.out; omega⟩, G⟩
 case round =>
  clear G b0 HM
  obtain ⟨i, j, rfl, rfl, HI, G⟩ := hrel
  obtain ⟨q0, q1, q2, q3, q4⟩ := HI.out
  have hk0 : gk ≠ 0 := by omega
  obtain ⟨k1, rfl⟩ : ∃ m, gk = m + 1 := ⟨gk - 1, by omega⟩
  rcases Nat.lt_trichotomy i j with hij | hij | hij
  ·have c1 : ((i : Int) != (j : Int)) = true := bne_iff_ne.mpr (by omega)
   have c2 : decide ((j : Int) < (i : Int)) = false := decide_eq_false (by omega)
   have c2b : decide (j < i) = false := decide_eq_false (by omega)
   have H1 : Aside0 (Calls Try.prog 76 #[.iface T rv, .int .i64 ((m : Int) - (i : Int)), .int .i64 ((m : Int) + (j : Int) - (i : Int)), .int .i64 (i : Int)] wr fun e w' => e = .returned (.tuple #[]) ∧ ∃ (P' X' Y' Q' : List α), X'.length = i ∧ Y'.length = j - i ∧ P'.length + i = m ∧ P' ++ (Y' ++ (X' ++ Q')) = R ∧ (P' ++ (X' ++ (Y' ++ Q'))).length ≤ 1000000000 ∧ St (P' ++ (X' ++ (Y' ++ Q'))) w') := ⟨by
    obtain ⟨P', X', Y', Q', g1, g2, g3, g4, g5, g6⟩ := G.out
    have y1 : Y' = Y'.take (j - i) ++ Y'.drop (j - i) := (List.take_append_drop _ _).symm
    have y2 : (Y'.take (j - i)).length = j - i := by rw [List.length_take]; omega
    have y3 : (Y'.drop (j - i)).length = i := by rw [List.length_drop]; omega
    obtain ⟨Y1, hY1⟩ : ∃ Y1, Y1 = Y'.take (j - i) := ⟨_, rfl⟩
    obtain ⟨Y2, hY2⟩ : ∃ Y2, Y2 = Y'.drop (j - i) := ⟨_, rfl⟩
    rw [← hY1, ← hY2] at y1
    rw [← hY1] at y2
    rw [← hY2] at y3
    subst y1
    rw [List.append_assoc] at g6
    refine (swapRange_int SW.out P' X' Y1 Y2 Q' wr g6 (by omega) (by omega) (by omega) (by omega) (by simp at g5 ⊢; omega)).mono ?_
    rintro e w' ⟨he, h2⟩
    refine ⟨he, P', Y2, Y1, X' ++ Q', y3, y2, g3, ?_, ?_, h2⟩
    ·rw [← g4]; simp
    ·simp at g5 ⊢; omega⟩
   have HIJ := Aside0.mk hij
   clear G q0 hij
   go_wp2_with (refine Calls.mono H1.out ?_; rintro e w2 ⟨rfl, h2⟩; have G := Aside0.mk h2; clear h2 H1)
   go_roundg k1
   case measure => omega
   case rel => exact ⟨i, j - i, rfl, by have h9 := HIJ.out; go_num, ⟨by have := HI.out; have := HIJ.out; omega⟩, G⟩
  ·have c1 : ((i : Int) != (j : Int)) = false := bne_eq_false_iff_eq.mpr (by omega)
   have H1 : Aside0 (Calls Try.prog 76 #[.iface T rv, .int .i64 ((m : Int) - (i : Int)), .int .i64 (m : Int), .int .i64 (i : Int)] wr fun e w' => e = .returned (.tuple #[]) ∧ St R w') := ⟨by
    obtain ⟨P', X', Y', Q', g1, g2, g3, g4, g5, g6⟩ := G.out
    refine (swapRange_int SW.out P' X' [] Y' Q' wr (by simpa using g6) (by omega) (by simp; omega) (by omega) (by omega) (by simpa using g5)).mono ?_
    rintro e w' ⟨he, h2⟩
    refine ⟨he, ?_⟩
    rw [← g4]
    simpa using h2⟩
   clear G q0 hij
   go_wp2_with (refine Calls.mono H1.out ?_; rintro e w2 ⟨rfl, h2⟩; have G := Aside0.mk h2; clear h2 H1)
   go_end0
   exact ⟨rfl, G.out⟩
  ·have c1 : ((i : Int) != (j : Int)) = true := bne_iff_ne.mpr (by omega)
   have c2 : decide ((j : Int) < (i : Int)) = true := decide_eq_true (by omega)
   have c2b : decide (j < i) = true := decide_eq_true (by omega)
   have H1 : Aside0 (Calls Try.prog 76 #[.iface T rv, .int .i64 ((m : Int) - (i : Int)), .int .i64 (m : Int), .int .i64 (j : Int)] wr fun e w' => e = .returned (.tuple #[]) ∧ ∃ (P' X' Y' Q' : List α), X'.length = i - j ∧ Y'.length = j ∧ P'.length + (i - j) = m ∧ P' ++ (Y' ++ (X' ++ Q')) = R ∧ (P' ++ (X' ++ (Y' ++ Q'))).length ≤ 1000000000 ∧ St (P' ++ (X' ++ (Y' ++ Q'))) w') := ⟨by
    obtain ⟨P', X', Y', Q', g1, g2, g3, g4, g5, g6⟩ := G.out
    have y1 : X' = X'.take j ++ X'.drop j := (List.take_append_drop _ _).symm
    have y2 : (X'.take j).length = j := by rw [List.length_take]; omega
    have y3 : (X'.drop j).length = i - j := by rw [List.length_drop]; omega
    obtain ⟨X1, hX1⟩ : ∃ X1, X1 = X'.take j := ⟨_, rfl⟩
    obtain ⟨X2, hX2⟩ : ∃ X2, X2 = X'.drop j := ⟨_, rfl⟩
    rw [← hX1, ← hX2] at y1
    rw [← hX1] at y2
    rw [← hX2] at y3
    subst y1
    rw [List.append_assoc] at g6
    refine (swapRange_int SW.out P' X1 X2 Y' Q' wr g6 (by omega) (by omega) (by omega) (by omega) (by simp at g5 ⊢; omega)).mono ?_
    rintro e w' ⟨he, h2⟩
    refine ⟨he, P' ++ Y', X2, X1, Q', y3, y2, by simp; omega, ?_, ?_, by simpa using h2⟩
    ·rw [← g4]; simp
    ·simp at g5 ⊢; omega⟩
   have HIJ := Aside0.mk hij
   clear G q0 hij
   go_wp2_with (refine Calls.mono H1.out ?_; rintro e w2 ⟨rfl, h2⟩; have G := Aside0.mk h2; clear h2 H1)
   go_roundg k1
   case measure => omega
   case rel => exact ⟨i - j, j, by have h9 := HIJ.out; go_num, rfl, ⟨by have := HI.out; have := HIJ.out; omega⟩, G⟩
theorem Sorter.swap_back (U V Z : List α) (x y : α) {w : World} {vi vk : Int} (h : St (U ++ x :: (V ++ y :: Z)) w) (hi : vi = (U.length : Int)) (hk : vk = ((U.length + 1 + V.length : Nat) : Int)) :
  Calls Try.prog gs #[rv, .int .i64 vk, .int .i64 vi] w fun e w' => e = .returned (.tuple #[]) ∧ St (U ++ y :: (V ++ x :: Z)) w' := by
 have := S.swap _ w (U.length + 1 + V.length) U.length vk vi h (by simp; omega) (by simp) hk hi
 rwa [swp_comm _ _ _ _ (by simp; omega) (by simp), swp_two] at this
theorem insertionSort_any (W : Wo p) (P X Q : List α) (w : World) (a b : Nat) (h : St (P ++ (X ++ Q)) w) (ha : a = P.length) (hb : b = P.length + X.length) (hz : (P ++ (X ++ Q)).length ≤ 1000000000) :
  Calls Try.prog 54 #[.iface T rv, .int .i64 a, .int .i64 b] w fun e w' => e = .returned (.tuple #[]) ∧ St (P ++ (isort p X ++ Q)) w' := by
 have hz2 : b ≤ 1000000000 ∧ a ≤ b := by simp at hz; omega
 obtain ⟨z1, z2⟩ := hz2
 have F := Aside0.mk (And.intro ha hb)
 have H : Aside0 (St (P ++ (isort p (X.take 1) ++ (X.drop 1 ++ Q))) w) := ⟨by
  have e : isort p (X.take 1) = X.take 1 := by cases X <;> rfl
  rw [e]
  have : X.take 1 ++ (X.drop 1 ++ Q) = X ++ Q := by rw [← List.append_assoc, List.take_append_drop]
  rw [this]
  exact h⟩
 have mL := S.mL
 have eL := S.eL
 have mS := S.mS
 have eS := S.eS
 have SW := Aside0.mk S
 clear h ha hb hz S
 go_enter Try.func54, Try.ntmps54
 go_wp2_with fail
 go_loopg [6, 7] (b - a) (fun kq v6 v7 w' => ∃ t : Nat, v6 = .int .i64 ((a + 1 + t : Nat) : Int) ∧ Aside0 (b ≤ a + 1 + t + kq ∧ a + 1 + t ≤ b + 1) ∧ Aside0 (St (P ++ (isort p (X.take (t + 1)) ++ (X.drop (t + 1) ++ Q))) w'))
 case atStart => exact ⟨0, by go_num, ⟨by omega⟩, H⟩
 case round =>
  clear H
  obtain ⟨t, rfl, HI, H⟩ := hrel
  by_cases hi : a + 1 + t < b
  ·obtain ⟨k1, rfl⟩ : ∃ m, gk = m + 1 := ⟨gk - 1, by have := HI.out; omega⟩
   have c1 : decide ((a : Int) + 1 + (t : Int) < (b : Int)) = true := decide_eq_true (by omega)
   have c1b : decide (a + 1 + t < b) = true := decide_eq_true hi
   obtain ⟨x, hx⟩ : ∃ x, X.drop (t + 1) = x :: X.drop (t + 1 + 1) := ⟨X[t + 1]'(by have := F.out; omega), by rw [← List.drop_eq_getElem_cons]⟩
   have hx2 : X.take (t + 1 + 1) = X.take (t + 1) ++ [x] := by
    have hl : t + 1 < X.length := by have := F.out; omega
    have e : X[t + 1] = x := by have h2 := List.drop_eq_getElem_cons (l := X) (i := t + 1) hl; rw [hx] at h2; injection h2 with h2; exact h2.symm
    rw [List.take_succ_eq_append_getElem hl, e]
   have hs := isort_srtd W (X.take (t + 1))
   have hl : (isort p (X.take (t + 1))).length = t + 1 := by rw [length_isort, List.length_take]; have := F.out; omega
   have N : Aside0 (∀ (A1 A2 : List α) (w' : World), isort p (X.take (t + 1)) = A1 ++ A2 → (∀ y ∈ A2, p x y = true) → (∀ y, A1.getLast? = some y → p x y = false) → St (P ++ (A1 ++ (x :: (A2 ++ (X.drop (t + 1 + 1) ++ Q))))) w' → St (P ++ (isort p (X.take (t + 1 + 1)) ++ (X.drop (t + 1 + 1) ++ Q))) w') := ⟨by
    intro A1 A2 w' e1 e2 e3 h2
    rw [hx2, isort_snoc, e1, ins_at x A1 A2]
    ·simpa using h2
    ·intro z hz
     rcases snoc_cases A1 with rfl | ⟨B, y, rfl⟩
     ·simp at hz
     ·have hy := e3 y (by simp)
      rw [List.mem_append] at hz
      rcases hz with hz | hz
      ·have hp : p y z = false := by
        rw [e1] at hs
        unfold Srtd at hs
        rw [List.append_assoc, List.pairwise_append] at hs
        exact hs.2.2 z hz y (by simp)
       exact W.neg _ _ _ hy hp
      ·simp at hz
       rw [hz]; exact hy
    ·intro y hy
     cases A2 with
     | nil => simp at hy
     | cons y2 A2 => simp at hy; subst hy; exact e2 _ (by simp)⟩
   have G : Aside0 (∃ A1 A2 : List α, isort p (X.take (t + 1)) = A1 ++ A2 ∧ A1.length = t + 1 ∧ (∀ y ∈ A2, p x y = true) ∧ St (P ++ (A1 ++ (x :: (A2 ++ (X.drop (t + 1 + 1) ++ Q))))) wr) := ⟨isort p (X.take (t + 1)), [], by simp, hl, by simp, by have h2 := H.out; rw [hx] at h2; simpa using h2⟩
   have HX := Aside0.mk hi
   have hti : (a : Int) + 1 + (t : Int) ≤ 1000000000 := by omega
   clear hx hx2 hs hl H hi
   go_wp2_with fail
   clear c1 c1b
   go_loopg [7] (t + 1) (fun kq v7 w' => ∃ j : Nat, v7 = .int .i64 ((a + j : Nat) : Int) ∧ Aside0 (j ≤ kq ∧ j ≤ t + 1) ∧ Aside0 (∃ A1 A2 : List α, isort p (X.take (t + 1)) = A1 ++ A2 ∧ A1.length = j ∧ (∀ y ∈ A2, p x y = true) ∧ St (P ++ (A1 ++ (x :: (A2 ++ (X.drop (t + 1 + 1) ++ Q))))) w'))
   case atStart => exact ⟨t + 1, by go_num, ⟨by omega⟩, G⟩
   case round =>
    clear G
    obtain ⟨j, rfl, HJ, G⟩ := hrel
    have hj2 : j ≤ t + 1 := HJ.out.2
    have hjb : (a : Int) + (j : Int) ≤ 1000000000 := by have := HX.out; omega
    by_cases hj : j = 0
    ·subst hj
     have H3 : Aside0 (St (P ++ (isort p (X.take (t + 1 + 1)) ++ (X.drop (t + 1 + 1) ++ Q))) wr) := ⟨by
      obtain ⟨A1, A2, g1, g2, g3, g4⟩ := G.out
      exact N.out A1 A2 _ g1 g3 (fun y hy => by obtain rfl := List.length_eq_zero_iff.1 g2; simp at hy) g4⟩
     clear G HJ hj2 hjb
     go_wp2_with fail
     go_roundg k1
     case measure => omega
     case rel => exact ⟨t + 1, by go_num, ⟨by have := HX.out; have := HI.out; omega⟩, H3⟩
    ·obtain ⟨k2, rfl⟩ : ∃ m, gk = m + 1 := ⟨gk - 1, by have := HJ.out; omega⟩
     have c2 : decide ((a : Int) < (a : Int) + (j : Int)) = true := decide_eq_true (by omega)
     have c2b : decide (a < a + j) = true := decide_eq_true (by omega)
     have j0 : (1 : Int) ≤ (j : Int) := by omega
     obtain ⟨A1, A2, g1, g2, g3, g4⟩ := G.out
     obtain ⟨B, y, hB⟩ : ∃ B y, A1 = B ++ [y] := by
      rcases snoc_cases A1 with rfl | ⟨B, y, h⟩
      ·simp at g2; omega
      ·exact ⟨B, y, h⟩
     subst hB
     have gl2 : B.length + 1 = j := by simpa using g2
     have H1 : Aside0 (St ((P ++ B) ++ y :: ([] ++ x :: (A2 ++ (X.drop (t + 1 + 1) ++ Q)))) wr) := ⟨by simpa using g4⟩
     have HL : Aside0 (Calls Try.prog gl #[rv, .int .i64 ((a : Int) + (j : Int)), .int .i64 ((a : Int) + (j : Int) - 1)] wr fun e w' => e = .returned (.bool (p x y)) ∧ St ((P ++ B) ++ y :: ([] ++ x :: (A2 ++ (X.drop (t + 1 + 1) ++ Q)))) w') := ⟨by
      have hp := F.out.1
      have := SW.out.less _ wr (a + j) (a + j - 1) ((a : Int) + (j : Int)) ((a : Int) + (j : Int) - 1) H1.out (by simp; omega) (by simp; omega) (by omega) (by omega)
      have e1 : ((P ++ B) ++ y :: ([] ++ x :: (A2 ++ (X.drop (t + 1 + 1) ++ Q)))).getD (a + j) d = x := by
       have := getD_mid d (P ++ B ++ [y]) (A2 ++ (X.drop (t + 1 + 1) ++ Q)) x
       rw [show (P ++ B ++ [y]).length = a + j by simp; omega] at this
       refine Eq.trans ?_ this
       simp only [List.append_assoc, List.cons_append, List.nil_append]
      have e2 : ((P ++ B) ++ y :: ([] ++ x :: (A2 ++ (X.drop (t + 1 + 1) ++ Q)))).getD (a + j - 1) d = y := by
       have := getD_mid d (P ++ B) ([] ++ x :: (A2 ++ (X.drop (t + 1 + 1) ++ Q))) y
       rwa [show (P ++ B).length = a + j - 1 by simp; omega] at this
      rwa [e1, e2] at this⟩
     have GE := Aside0.mk (And.intro g1 (And.intro g3 gl2))
     have FP := Aside0.mk F.out.1
     clear G g1 g2 g3 g4 H1 gl2
     obtain ⟨r, hr⟩ : ∃ r, r = p x y := ⟨_, rfl⟩
     rw [← hr] at HL
     cases r with
     | false =>
      have HR := Aside0.mk hr.symm
      clear hr
      go_wp2_with (refine Calls.mono HL.out ?_; rintro e w2 ⟨rfl, h2⟩; have H1 := Aside0.mk h2; clear h2 HL)
      have H3 : Aside0 (St (P ++ (isort p (X.take (t + 1 + 1)) ++ (X.drop (t + 1 + 1) ++ Q))) w2) := ⟨N.out (B ++ [y]) A2 _ GE.out.1 GE.out.2.1 (fun z hz => by simp at hz; subst hz; exact HR.out) (by have := H1.out; simpa using this)⟩
      clear GE H1 HJ hj2 hjb
      go_roundg k1
      case measure => omega
      case rel => exact ⟨t + 1, by go_num, ⟨by have := HX.out; have := HI.out; omega⟩, H3⟩
     | true =>
      have HR := Aside0.mk hr.symm
      clear hr
      go_wp2_with (first | (refine Calls.mono HL.out ?_; rintro e w2 ⟨rfl, h2⟩; have H1 := Aside0.mk h2; clear h2 HL) | (refine Calls.mono (SW.out.swap_back _ _ _ _ _ H1.out (by have := FP.out; have := GE.out.2.2; simp; omega) (by have := FP.out; have := GE.out.2.2; simp; omega)) ?_; rintro e w3 ⟨rfl, h2⟩; have H2 := Aside0.mk h2; clear h2 H1))
      go_roundg k2
      case measure => omega
      case rel => exact ⟨j - 1, by have h9 := GE.out.2.2; go_num, ⟨by have := HJ.out; omega⟩, ⟨B, y :: A2, by rw [GE.out.1]; simp, by have := GE.out.2.2; omega, by intro z hz; rcases List.mem_cons.1 hz with rfl | hz; exact HR.out; exact GE.out.2.1 z hz, by have := H2.out; simpa using this⟩⟩
  ·have c1 : decide ((a : Int) + 1 + (t : Int) < (b : Int)) = false := decide_eq_false (by omega)
   have c1b : decide (a + 1 + t < b) = false := decide_eq_false hi
   have H1 : Aside0 (St (P ++ (isort p X ++ Q)) wr) := ⟨by
    have h2 := H.out
    have h3 := F.out
    rw [List.take_of_length_le (by omega), List.drop_of_length_le (by omega)] at h2
    simpa using h2⟩
   clear H
   go_wp2_with fail
   go_end0
   exact ⟨rfl, H1.out⟩
end
end Go.Proofs.Ytopfjjdkffdjpaa.Q
end
section
namespace Go.Proofs.Ytopfjjdkffdjpaa.Q
open Go.RowKit Go.Proofs.YtopfjjdkffdjpaaW.PrintWords Go.Proofs.YtopfjjdkffdjpaaW.PrintLast Go.Proofs.YtopfjjdkffdjpaaW.PrintMore Go.Proofs.Ytopfjjdkffdjpaa.Srt
theorem getD_app {α : Type} (d : α) (A B : List α) (q : Nat) : (A ++ B).getD (A.length + q) d = B.getD q d := by
 rw [List.getD_eq_getElem?_getD, List.getElem?_append_right (by omega), Nat.add_sub_cancel_left, ← List.getD_eq_getElem?_getD]
theorem getD_lt {α : Type} (d : α) (A B : List α) (q : Nat) (h : q < A.length) : (A ++ B).getD q d = A.getD q d := by
 rw [List.getD_eq_getElem?_getD, List.getElem?_append_left h, ← List.getD_eq_getElem?_getD]
theorem getD_get {α : Type} (d : α) (A : List α) (q : Nat) (h : q < A.length) : A.getD q d = A[q] := by
 rw [List.getD_eq_getElem?_getD, List.getElem?_eq_getElem h]; rfl
theorem srtd_get {α : Type} {p : α → α → Bool} (d : α) {A : List α} (h : Srtd p A) {q r : Nat} (hq : q < r) (hr : r < A.length) : p (A.getD r d) (A.getD q d) = false := by
 rw [getD_get d A r hr, getD_get d A q (by omega)]
 exact List.pairwise_iff_getElem.1 h q r (by omega) hr hq
theorem mem_take_getD {α : Type} (d : α) (A : List α) (t : Nat) {y : α} (h : y ∈ A.take t) : ∃ q, q < t ∧ q < A.length ∧ A.getD q d = y := by
 obtain ⟨q, hq, e⟩ := List.mem_iff_getElem.1 h
 rw [List.length_take] at hq
 refine ⟨q, by omega, by omega, ?_⟩
 rw [getD_get d A q (by omega), ← e, List.getElem_take]
theorem mem_drop_getD {α : Type} (d : α) (A : List α) (t : Nat) {y : α} (h : y ∈ A.drop t) : ∃ q, t ≤ q ∧ q < A.length ∧ A.getD q d = y := by
 obtain ⟨q, hq, e⟩ := List.mem_iff_getElem.1 h
 rw [List.length_drop] at hq
 refine ⟨t + q, by omega, by omega, ?_⟩
 rw [getD_get d A (t + q) (by omega), ← e, List.getElem_drop]
section
variable {α : Type} {d : α} {p : α → α → Bool} {T : TypeId} {rv : Value} {gl gs : Nat} {St : List α → World → Prop} (S : Sorter d p T rv gl gs St)
include S
theorem sym_left (W : Wo p) (P B Q : List α) (x : α) (w : World) (a m b : Nat) (h : St (P ++ (x :: (B ++ Q))) w) (ha : a = P.length) (hm : m = a + 1) (hb : b = m + B.length) (hB : 0 < B.length) (hs : Srtd p B) (hz : (P ++ (x :: (B ++ Q))).length ≤ 1000000000) :
  Calls Try.prog 55 #[.iface T rv, .int .i64 a, .int .i64 m, .int .i64 b] w fun e w' => e = .returned (.tuple #[]) ∧ St (P ++ (mrg p [x] B ++ Q)) w' := by
 have hz2 : b ≤ 1000000000 ∧ m < b := by simp at hz; omega
 obtain ⟨z1, z2⟩ := hz2
 have F := Aside0.mk (And.intro ha (And.intro hm hb))
 have H := Aside0.mk h
 have HS := Aside0.mk hs
 have mL := S.mL
 have eL := S.eL
 have mS := S.mS
 have eS := S.eS
 have SW := Aside0.mk S
 have e1 : ((m : Int) - (a : Int) == 1) = true := by rw [beq_iff_eq]; omega
 have z3 : a < m := by omega
 clear h ha hb hz S hs hm
 go_enter Try.func55, Try.ntmps55
 go_wp2_with fail
 clear e1
 go_loopg [8, 9, 10] (b - m) (fun kq v8 v9 v10 w' => ∃ i j : Nat, v8 = .int .i64 i ∧ v9 = .int .i64 j ∧ Aside0 (m ≤ i ∧ i ≤ j ∧ j ≤ b ∧ j ≤ i + kq) ∧ Aside0 ((∀ q, q + m < i → p (B.getD q d) x = true) ∧ (∀ q, j ≤ q + m → q < B.length → p (B.getD q d) x = false)) ∧ Aside0 (St (P ++ (x :: (B ++ Q))) w'))
 case atStart => exact ⟨m, b, rfl, rfl, ⟨by omega⟩, ⟨fun q hq => by omega, fun q h1 h2 => by have := F.out; omega⟩, H⟩
 case round =>
  clear H
  obtain ⟨i, j, rfl, rfl, HI, HQ, H⟩ := hrel
  obtain ⟨i1, i2, i3, i4⟩ := HI.out
  by_cases hij : i < j
  ·obtain ⟨k1, rfl⟩ : ∃ m, gk = m + 1 := ⟨gk - 1, by omega⟩
   have c1 : decide ((i : Int) < (j : Int)) = true := decide_eq_true (by omega)
   have c1b : decide (i < j) = true := decide_eq_true hij
   obtain ⟨q, hh, hq1, hq2⟩ : ∃ q : Nat, ((i : Int) + (j : Int)) / 2 = (m : Int) + (q : Int) ∧ i ≤ m + q ∧ m + q < j := ⟨(i + j) / 2 - m, by omega, by omega, by omega⟩
   have HL : Aside0 (Calls Try.prog gl #[rv, .int .i64 ((m : Int) + (q : Int)), .int .i64 (a : Int)] wr fun e w' => e = .returned (.bool (p (B.getD q d) x)) ∧ St (P ++ (x :: (B ++ Q))) w') := ⟨by
    obtain ⟨f1, f2, f3⟩ := F.out
    have := SW.out.less _ wr (P.length + 1 + q) P.length ((m : Int) + (q : Int)) (a : Int) H.out (by simp; omega) (by simp) (by omega) (by omega)
    have e2 := getD_mid d P (B ++ Q) x
    have e3 : (P ++ (x :: (B ++ Q))).getD (P.length + 1 + q) d = B.getD q d := by
     have := getD_app d (P ++ [x]) (B ++ Q) q
     rw [getD_lt d B Q q (by omega), show (P ++ [x]).length = P.length + 1 by simp] at this
     refine Eq.trans ?_ this
     simp only [List.append_assoc, List.cons_append, List.nil_append]
    rwa [e2, e3] at this⟩
   obtain ⟨r, hr⟩ : ∃ r, r = p (B.getD q d) x := ⟨_, rfl⟩
   rw [← hr] at HL
   have HR := Aside0.mk (And.intro hr.symm (And.intro hq1 hq2))
   have hq3 : (m : Int) + (q : Int) < 1000000000 := by omega
   clear hr H hq1 hq2
   cases r with
   | false =>
    go_wp2_with (refine Calls.mono HL.out ?_; rintro e w2 ⟨rfl, h2⟩; have H := Aside0.mk h2; clear h2 HL)
    go_roundg k1
    case measure => omega
    case rel => exact ⟨i, m + q, rfl, by go_num, ⟨by have := HR.out; omega⟩, ⟨HQ.out.1, fun u h1 h2 => by
     have hp := HR.out.1
     by_cases hu : q < u
     ·exact W.neg _ _ _ (srtd_get d HS.out hu h2) hp
     ·rw [show u = q by omega]; exact hp⟩, H⟩
   | true =>
    go_wp2_with (refine Calls.mono HL.out ?_; rintro e w2 ⟨rfl, h2⟩; have H := Aside0.mk h2; clear h2 HL)
    go_roundg k1
    case measure => omega
    case rel => exact ⟨m + q + 1, j, by go_num, rfl, ⟨by have := HR.out; omega⟩, ⟨fun u h1 => by
     have hp := HR.out.1
     have hq := HR.out.2.2
     have hb := F.out.2.2
     by_cases hu : u < q
     ·cases hc : p (B.getD u d) x with
      | true => rfl
      | false => exact absurd (W.neg _ _ _ (srtd_get d HS.out hu (by omega)) hc) (by rw [hp]; simp)
     ·rw [show u = q by omega]; exact hp, HQ.out.2⟩, H⟩
  ·obtain ⟨t, rfl⟩ : ∃ t, i = m + t := ⟨i - m, by omega⟩
   have c1 : decide ((m : Int) + (t : Int) < (j : Int)) = false := decide_eq_false (by omega)
   have c1b : decide (m + t < j) = false := decide_eq_false hij
   have HM : Aside0 (mrg p [x] B = B.take t ++ x :: B.drop t) := ⟨by
    have := one_mrg (p := p) x (B.take t) (B.drop t) (fun y hy => by
     obtain ⟨q, h1, h2, h3⟩ := mem_take_getD d B t hy
     rw [← h3]; exact HQ.out.1 q (by omega)) (fun y hy => by
     obtain ⟨q, h1, h2, h3⟩ := mem_drop_getD d B t hy
     rw [← h3]; exact HQ.out.2 q (by omega) h2)
    rwa [List.take_append_drop] at this⟩
   have HT := Aside0.mk (show t ≤ B.length from by have := F.out; omega)
   have hmt : (m : Int) + (t : Int) ≤ 1000000000 := by omega
   have H2 : Aside0 (St (P ++ (B.take 0 ++ x :: (B.drop 0 ++ Q))) wr) := ⟨by simpa using H.out⟩
   clear H HQ HI i1 i2 i3 i4 hij
   go_wp2_with fail
   clear c1 c1b
   have hma : Aside0 ((m : Int) = (a : Int) + 1) := ⟨by have := F.out; omega⟩
   go_loopg [11] t (fun kq v11 w' => ∃ u : Nat, v11 = .int .i64 ((a + u : Nat) : Int) ∧ Aside0 (u + kq = t) ∧ Aside0 (St (P ++ (B.take u ++ x :: (B.drop u ++ Q))) w'))
   case atStart => exact ⟨0, by go_num, ⟨by omega⟩, H2⟩
   case round =>
    clear H2
    obtain ⟨u, rfl, HU, H⟩ := hrel
    have hu0 := HU.out
    by_cases hu : u < t
    ·obtain ⟨k1, rfl⟩ : ∃ m, gk = m + 1 := ⟨gk - 1, by omega⟩
     have c1 : decide ((a : Int) + (u : Int) < (m : Int) + (t : Int) - 1) = true := decide_eq_true (by have := hma.out; omega)
     have hub : u < B.length := by have := HT.out; omega
     obtain ⟨y, hy⟩ : ∃ y, B.drop u = y :: B.drop (u + 1) := ⟨B[u], by rw [← List.drop_eq_getElem_cons]⟩
     have hy2 : B.take (u + 1) = B.take u ++ [y] := by
      have e : B[u] = y := by have h2 := List.drop_eq_getElem_cons (l := B) (i := u) hub; rw [hy] at h2; injection h2 with h2; exact h2.symm
      rw [List.take_succ_eq_append_getElem hub, e]
     have H1 : Aside0 (St ((P ++ B.take u) ++ x :: ([] ++ y :: (B.drop (u + 1) ++ Q))) wr) := ⟨by have h2 := H.out; rw [hy] at h2; simpa using h2⟩
     have H3 : Aside0 (∀ w', St ((P ++ B.take u) ++ y :: ([] ++ x :: (B.drop (u + 1) ++ Q))) w' → St (P ++ (B.take (u + 1) ++ x :: (B.drop (u + 1) ++ Q))) w') := ⟨fun w' h2 => by rw [hy2]; simpa using h2⟩
     have hl : Aside0 ((P ++ B.take u).length = a + u) := ⟨by have := F.out; simp; omega⟩
     have hau : (a : Int) + (u : Int) ≤ 1000000000 := by omega
     clear H hy hy2
     go_wp2_with (refine Calls.mono (SW.out.swap_two _ _ _ _ _ H1.out (by rw [hl.out]; omega) (by rw [hl.out]; simp)) ?_; rintro e w2 ⟨rfl, h2⟩; have H := Aside0.mk (H3.out _ h2); clear h2 H1 H3)
     go_roundg k1
     case measure => omega
     case rel => exact ⟨u + 1, by go_num, ⟨by omega⟩, H⟩
    ·have c1 : decide ((a : Int) + (u : Int) < (m : Int) + (t : Int) - 1) = false := decide_eq_false (by have := hma.out; omega)
     obtain rfl : u = t := by omega
     have H1 : Aside0 (St (P ++ (mrg p [x] B ++ Q)) wr) := ⟨by rw [HM.out]; simpa using H.out⟩
     clear H
     go_wp2_with fail
     refine bodyPost_ret (results_none rfl _ _ _) rfl ?_
     exact ⟨rfl, H1.out⟩
theorem sym_right (W : Wo p) (P A Q : List α) (x : α) (w : World) (a m b : Nat) (h : St (P ++ (A ++ (x :: Q))) w) (ha : a = P.length) (hm : m = a + A.length) (hb : b = m + 1) (hA : 1 < A.length) (hs : Srtd p A) (hz : (P ++ (A ++ (x :: Q))).length ≤ 1000000000) :
  Calls Try.prog 55 #[.iface T rv, .int .i64 a, .int .i64 m, .int .i64 b] w fun e w' => e = .returned (.tuple #[]) ∧ St (P ++ (mrg p A [x] ++ Q)) w' := by
 have hz2 : b ≤ 1000000000 ∧ a < m := by simp at hz; omega
 obtain ⟨z1, z2⟩ := hz2
 have F := Aside0.mk (And.intro ha (And.intro hm hb))
 have H := Aside0.mk h
 have HS := Aside0.mk hs
 have mL := S.mL
 have eL := S.eL
 have mS := S.mS
 have eS := S.eS
 have SW := Aside0.mk S
 have e0 : ((m : Int) - (a : Int) == 1) = false := by rw [beq_eq_false_iff_ne]; omega
 have e1 : ((b : Int) - (m : Int) == 1) = true := by rw [beq_iff_eq]; omega
 have z3 : m < b := by omega
 clear h ha hb hz S hs hm
 go_enter Try.func55, Try.ntmps55
 go_wp2_with fail
 clear e1 e0
 go_loopg [12, 13, 14] (m - a) (fun kq v8 v9 v10 w' => ∃ i j : Nat, v8 = .int .i64 i ∧ v9 = .int .i64 j ∧ Aside0 (a ≤ i ∧ i ≤ j ∧ j ≤ m ∧ j ≤ i + kq) ∧ Aside0 ((∀ q, q + a < i → p x (A.getD q d) = false) ∧ (∀ q, j ≤ q + a → q < A.length → p x (A.getD q d) = true)) ∧ Aside0 (St (P ++ (A ++ (x :: Q))) w'))
 case atStart => exact ⟨a, m, rfl, rfl, ⟨by omega⟩, ⟨fun q hq => by omega, fun q h1 h2 => by have := F.out; omega⟩, H⟩
 case round =>
  clear H
  obtain ⟨i, j, rfl, rfl, HI, HQ, H⟩ := hrel
  obtain ⟨i1, i2, i3, i4⟩ := HI.out
  by_cases hij : i < j
  ·obtain ⟨k1, rfl⟩ : ∃ m, gk = m + 1 := ⟨gk - 1, by omega⟩
   have c1 : decide ((i : Int) < (j : Int)) = true := decide_eq_true (by omega)
   have c1b : decide (i < j) = true := decide_eq_true hij
   obtain ⟨q, hh, hq1, hq2⟩ : ∃ q : Nat, ((i : Int) + (j : Int)) / 2 = (a : Int) + (q : Int) ∧ i ≤ a + q ∧ a + q < j := ⟨(i + j) / 2 - a, by omega, by omega, by omega⟩
   have HL : Aside0 (Calls Try.prog gl #[rv, .int .i64 (m : Int), .int .i64 ((a : Int) + (q : Int))] wr fun e w' => e = .returned (.bool (p x (A.getD q d))) ∧ St (P ++ (A ++ (x :: Q))) w') := ⟨by
    obtain ⟨f1, f2, f3⟩ := F.out
    have := SW.out.less _ wr (P.length + A.length) (P.length + q) (m : Int) ((a : Int) + (q : Int)) H.out (by simp) (by simp; omega) (by omega) (by omega)
    have e2 := getD_mid d (P ++ A) Q x
    rw [List.length_append, List.append_assoc] at e2
    have e3 := getD_app d P (A ++ (x :: Q)) q
    rw [getD_lt d A (x :: Q) q (by omega)] at e3
    rwa [e2, e3] at this⟩
   obtain ⟨r, hr⟩ : ∃ r, r = p x (A.getD q d) := ⟨_, rfl⟩
   rw [← hr] at HL
   have HR := Aside0.mk (And.intro hr.symm (And.intro hq1 hq2))
   have hq3 : (a : Int) + (q : Int) < 1000000000 := by omega
   clear hr H hq1 hq2
   cases r with
   | true =>
    go_wp2_with (refine Calls.mono HL.out ?_; rintro e w2 ⟨rfl, h2⟩; have H := Aside0.mk h2; clear h2 HL)
    go_roundg k1
    case measure => omega
    case rel => exact ⟨i, a + q, rfl, by go_num, ⟨by have := HR.out; omega⟩, ⟨HQ.out.1, fun u h1 h2 => by
     have hp := HR.out.1
     by_cases hu : q < u
     ·cases hc : p x (A.getD u d) with
      | true => rfl
      | false => exact absurd (W.neg _ _ _ hc (srtd_get d HS.out hu h2)) (by rw [hp]; simp)
     ·rw [show u = q by omega]; exact hp⟩, H⟩
   | false =>
    go_wp2_with (refine Calls.mono HL.out ?_; rintro e w2 ⟨rfl, h2⟩; have H := Aside0.mk h2; clear h2 HL)
    go_roundg k1
    case measure => omega
    case rel => exact ⟨a + q + 1, j, by go_num, rfl, ⟨by have := HR.out; omega⟩, ⟨fun u h1 => by
     have hp := HR.out.1
     have hq := HR.out.2.2
     have hb := F.out.2.1
     by_cases hu : u < q
     ·exact W.neg _ _ _ hp (srtd_get d HS.out hu (by omega))
     ·rw [show u = q by omega]; exact hp, HQ.out.2⟩, H⟩
  ·obtain ⟨t, rfl⟩ : ∃ t, i = a + t := ⟨i - a, by omega⟩
   have c1 : decide ((a : Int) + (t : Int) < (j : Int)) = false := decide_eq_false (by omega)
   have c1b : decide (a + t < j) = false := decide_eq_false hij
   have HT := Aside0.mk (show t ≤ A.length from by have := F.out; omega)
   have HM : Aside0 (mrg p A [x] = A.take t ++ x :: A.drop t) := ⟨by
    have := ins_at (p := p) x (A.take t) (A.drop t) (fun y hy => by
     obtain ⟨q, h1, h2, h3⟩ := mem_take_getD d A t hy
     rw [← h3]; exact HQ.out.1 q (by omega)) (fun y hy => by
     obtain ⟨q, h1, h2, h3⟩ := mem_drop_getD d A t (List.mem_of_mem_head? hy)
     rw [← h3]; exact HQ.out.2 q (by omega) h2)
    rw [mrg_one]
    rwa [List.take_append_drop] at this⟩
   have hmt : (a : Int) + (t : Int) ≤ (m : Int) := by omega
   have H2 : Aside0 (St (P ++ (A.take A.length ++ x :: (A.drop A.length ++ Q))) wr) := ⟨by simpa using H.out⟩
   clear H HQ HI i1 i2 i3 i4 hij
   go_wp2_with fail
   clear c1 c1b
   have hma : Aside0 ((m : Int) = (a : Int) + (A.length : Int)) := ⟨by have := F.out; omega⟩
   go_loopg [15] (A.length - t) (fun kq v11 w' => ∃ u : Nat, v11 = .int .i64 ((a + u : Nat) : Int) ∧ Aside0 (u ≤ t + kq ∧ t ≤ u ∧ u ≤ A.length) ∧ Aside0 (St (P ++ (A.take u ++ x :: (A.drop u ++ Q))) w'))
   case atStart => exact ⟨A.length, by rw [hma.out]; go_num, ⟨by have := HT.out; omega⟩, H2⟩
   case round =>
    clear H2
    obtain ⟨u, rfl, HU, H⟩ := hrel
    obtain ⟨hu0, hu1, hu2⟩ := HU.out
    have hau : (a : Int) + (u : Int) ≤ 1000000000 := by have := hma.out; omega
    by_cases hu : t < u
    ·obtain ⟨k1, rfl⟩ : ∃ m, gk = m + 1 := ⟨gk - 1, by omega⟩
     have c1 : decide ((a : Int) + (t : Int) < (a : Int) + (u : Int)) = true := decide_eq_true (by omega)
     have c1b : decide (a + t < a + u) = true := decide_eq_true (by omega)
     have u0 : (1 : Int) ≤ (u : Int) := by omega
     obtain ⟨s, hsu⟩ : ∃ s, u = s + 1 := ⟨u - 1, by omega⟩
     have hub : s < A.length := by omega
     obtain ⟨y, hy⟩ : ∃ y, A.drop s = y :: A.drop (s + 1) := ⟨A[s], by rw [← List.drop_eq_getElem_cons]⟩
     have hy2 : A.take (s + 1) = A.take s ++ [y] := by
      have e : A[s] = y := by have h2 := List.drop_eq_getElem_cons (l := A) (i := s) hub; rw [hy] at h2; injection h2 with h2; exact h2.symm
      rw [List.take_succ_eq_append_getElem hub, e]
     have H1 : Aside0 (St ((P ++ A.take s) ++ y :: ([] ++ x :: (A.drop (s + 1) ++ Q))) wr) := ⟨by have h2 := H.out; rw [hsu, hy2] at h2; simpa using h2⟩
     have H3 : Aside0 (∀ w', St ((P ++ A.take s) ++ x :: ([] ++ y :: (A.drop (s + 1) ++ Q))) w' → St (P ++ (A.take s ++ x :: (A.drop s ++ Q))) w') := ⟨fun w' h2 => by rw [hy]; simpa using h2⟩
     have hl : Aside0 ((P ++ A.take s).length = a + s) := ⟨by have := F.out; simp; omega⟩
     have SU := Aside0.mk hsu
     have c1d : decide (t < u) = true := decide_eq_true hu
     clear H hy hy2 hsu hub hu0 hu1 hu2
     go_wp2_with (refine Calls.mono (SW.out.swap_back _ _ _ _ _ H1.out (by rw [hl.out]; have := SU.out; omega) (by rw [hl.out]; have := SU.out; simp; try omega)) ?_; rintro e w2 ⟨rfl, h2⟩; have H := Aside0.mk (H3.out _ h2); clear h2 H1 H3)
     go_roundg k1
     case measure => omega
     case rel => exact ⟨s, by have h9 := SU.out; go_num, ⟨by have := SU.out; have := HU.out; omega⟩, H⟩
    ·obtain rfl : u = t := by omega
     have c1 : decide ((a : Int) + (u : Int) < (a : Int) + (u : Int)) = false := decide_eq_false (by omega)
     have c1b : decide (a + u < a + u) = false := decide_eq_false (by omega)
     have H1 : Aside0 (St (P ++ (mrg p A [x] ++ Q)) wr) := ⟨by rw [HM.out]; simpa using H.out⟩
     clear H
     go_wp2_with fail
     refine bodyPost_ret (results_none rfl _ _ _) rfl ?_
     exact ⟨rfl, H1.out⟩
end
end Go.Proofs.Ytopfjjdkffdjpaa.Q
end
section
namespace Go.Proofs.Ytopfjjdkffdjpaa.Q
open Go.RowKit Go.Proofs.YtopfjjdkffdjpaaW.PrintWords Go.Proofs.YtopfjjdkffdjpaaW.PrintLast Go.Proofs.YtopfjjdkffdjpaaW.PrintMore Go.Proofs.Ytopfjjdkffdjpaa.Srt
section
variable {α : Type} {d : α} {p : α → α → Bool} {T : TypeId} {rv : Value} {gl gs : Nat} {St : List α → World → Prop} (S : Sorter d p T rv gl gs St)
include S
omit S in
theorem halves (W : Wo p) (A B : List α) (u v : Nat) (hA : Srtd p A) (hB : Srtd p B) (hu : u ≤ A.length) (hv : v ≤ B.length)
  (h1 : u = 0 ∨ v = B.length ∨ p (B.getD v d) (A.getD (u - 1) d) = false) (h2 : u = A.length ∨ v = 0 ∨ p (B.getD (v - 1) d) (A.getD u d) = true) :
  mrg p A B = mrg p (A.take u) (B.take v) ++ mrg p (A.drop u) (B.drop v) := by
 have := mrg_split (p := p) (A.take u) (B.take v) (A.drop u) (B.drop v) (fun a ha b hb => by
  obtain ⟨q, q1, q2, rfl⟩ := mem_take_getD d A u ha
  obtain ⟨r, r1, r2, rfl⟩ := mem_drop_getD d B v hb
  rcases h1 with h1 | h1 | h1
  ·omega
  ·omega
  ·have e1 : p (B.getD r d) (A.getD (u - 1) d) = false := by
    by_cases hr : v < r
    ·exact W.neg _ _ _ (srtd_get d hB hr r2) h1
    ·rw [show r = v by omega]; exact h1
   by_cases hq : q < u - 1
   ·exact W.neg _ _ _ e1 (srtd_get d hA hq (by omega))
   ·rw [show q = u - 1 by omega]; exact e1) (fun a ha b hb => by
  obtain ⟨q, q1, q2, rfl⟩ := mem_drop_getD d A u ha
  obtain ⟨r, r1, r2, rfl⟩ := mem_take_getD d B v hb
  rcases h2 with h2 | h2 | h2
  ·omega
  ·omega
  ·have e1 : p (B.getD r d) (A.getD u d) = true := by
    by_cases hr : r < v - 1
    ·cases hc : p (B.getD r d) (A.getD u d) with
     | true => rfl
     | false => exact absurd (W.neg _ _ _ (srtd_get d hB hr (by omega)) hc) (by rw [h2]; simp)
    ·rw [show r = v - 1 by omega]; exact h2
   by_cases hq : u < q
   ·cases hc : p (B.getD r d) (A.getD q d) with
    | true => rfl
    | false => exact absurd (W.neg _ _ _ hc (srtd_get d hA hq q2)) (by rw [e1]; simp)
   ·rw [show q = u by omega]; exact e1)
 rwa [List.take_append_drop, List.take_append_drop] at this
theorem symMerge_any (W : Wo p) : ∀ (N : Nat) (P A B Q : List α) (w : World) (a m b : Nat), A.length + B.length ≤ N → St (P ++ (A ++ (B ++ Q))) w → a = P.length → m = a + A.length → b = m + B.length → 0 < A.length → 0 < B.length → Srtd p A → Srtd p B → (P ++ (A ++ (B ++ Q))).length ≤ 1000000000 →
  Calls Try.prog 55 #[.iface T rv, .int .i64 a, .int .i64 m, .int .i64 b] w fun e w' => e = .returned (.tuple #[]) ∧ St (P ++ (mrg p A B ++ Q)) w' := by
 intro N
 induction N with
 | zero => intro P A B Q w a m b hn h ha hm hb hA hB hs ht hz; omega
 | succ N IH =>
 intro P A B Q w a m b hn h ha hm hb hA hB hs ht hz
 by_cases hA1 : A.length = 1
 ·obtain ⟨x, rfl⟩ := List.length_eq_one_iff.1 hA1
  exact sym_left S W P B Q x w a m b (by simpa using h) ha (by simpa using hm) hb hB ht (by simpa using hz)
 by_cases hB1 : B.length = 1
 ·obtain ⟨x, rfl⟩ := List.length_eq_one_iff.1 hB1
  exact sym_right S W P A Q x w a m b (by simpa using h) ha hm (by simpa using hb) (by omega) hs (by simpa using hz)
 have hz2 : b ≤ 1000000000 ∧ a < m ∧ m < b := by simp at hz; omega
 obtain ⟨z1, z2, z3⟩ := hz2
 have F := Aside0.mk (And.intro ha (And.intro hm (And.intro hb (And.intro hn hz))))
 have H := Aside0.mk h
 have HS := Aside0.mk (And.intro hs ht)
 have mL := S.mL
 have eL := S.eL
 have mS := S.mS
 have eS := S.eS
 have SW := Aside0.mk S
 have IHA := Aside0.mk IH
 have e0 : ((m : Int) - (a : Int) == 1) = false := by rw [beq_eq_false_iff_ne]; omega
 have e1 : ((b : Int) - (m : Int) == 1) = false := by rw [beq_eq_false_iff_ne]; omega
 obtain ⟨mid, hmid, hm1, hm2⟩ : ∃ mid : Nat, ((a : Int) + (b : Int)) / 2 = (mid : Int) ∧ mid = (a + b) / 2 ∧ a + b - 1 ≤ mid + mid := ⟨(a + b) / 2, by omega, rfl, by omega⟩
 have HM := Aside0.mk (And.intro hm1 hm2)
 have hm3 : a < mid ∧ mid < b := by omega
 obtain ⟨hm3, hm4⟩ := hm3
 obtain ⟨s0, r0, G⟩ : ∃ s0 r0 : Nat, Aside0 (a ≤ s0 ∧ s0 ≤ r0 ∧ r0 ≤ m ∧ r0 ≤ mid ∧ mid + m ≤ b + s0 ∧ (s0 = a ∨ mid + m = b + s0) ∧ (r0 = m ∨ r0 = mid)) ∧ ((mid < m ∧ decide (mid < m) = true ∧ Aside0 ((mid : Int) + (m : Int) - (b : Int) = (s0 : Int) ∧ (mid : Int) = (r0 : Int))) ∨ (¬ mid < m ∧ decide (mid < m) = false ∧ Aside0 ((a : Int) = (s0 : Int) ∧ (m : Int) = (r0 : Int)))) := by
  by_cases h : mid < m
  ·exact ⟨mid + m - b, mid, ⟨by omega⟩, .inl ⟨h, decide_eq_true h, ⟨by omega, rfl⟩⟩⟩
  ·exact ⟨a, m, ⟨by omega⟩, .inr ⟨h, decide_eq_false h, ⟨rfl, rfl⟩⟩⟩
 obtain ⟨HG, G⟩ := G
 obtain ⟨R, hR⟩ : ∃ R, R = mrg p A B := ⟨_, rfl⟩
 rw [← hR]
 have HRR := Aside0.mk hR
 clear h ha hb hz S hs hm ht hn IH hA hB hA1 hB1 hm1 hm2 hR
 go_enter Try.func55, Try.ntmps55
 rcases G with ⟨c0, c0b, HSR⟩ | ⟨c0, c0b, HSR⟩
 all_goals
  go_wp2_with fail
  clear e0 e1 c0b c0
  go_loopg [18, 19, 21] (r0 - s0) (fun kq v18 v19 v21 w' => ∃ i j : Nat, v18 = .int .i64 i ∧ v19 = .int .i64 j ∧ Aside0 (s0 ≤ i ∧ i ≤ j ∧ j ≤ r0 ∧ j ≤ i + kq) ∧ Aside0 ((i = s0 ∨ p (B.getD (mid - i) d) (A.getD (i - 1 - a) d) = false) ∧ (j = r0 ∨ p (B.getD (mid - 1 - j) d) (A.getD (j - a) d) = true)) ∧ Aside0 (St (P ++ (A ++ (B ++ Q))) w'))
  case atStart => exact ⟨s0, r0, by have := HSR.out; first | rfl | (congr 1; omega), by have := HSR.out; first | rfl | (congr 1; omega), ⟨by have := HG.out; omega⟩, ⟨.inl rfl, .inl rfl⟩, H⟩
  case round =>
   clear H
   obtain ⟨i, j, rfl, rfl, HI, HQ, H⟩ := hrel
   obtain ⟨i1, i2, i3, i4⟩ := HI.out
   obtain ⟨g1, g2, g3, g4, g5, g6, g7⟩ := HG.out
   by_cases hij : i < j
   ·obtain ⟨k1, rfl⟩ : ∃ m, gk = m + 1 := ⟨gk - 1, by omega⟩
    have c1 : decide ((i : Int) < (j : Int)) = true := decide_eq_true (by omega)
    have c1b : decide (i < j) = true := decide_eq_true hij
    obtain ⟨c, hh, hq1, hq2⟩ : ∃ c : Nat, ((i : Int) + (j : Int)) / 2 = (c : Int) ∧ i ≤ c ∧ c < j := ⟨(i + j) / 2, by omega, by omega, by omega⟩
    have HL : Aside0 (Calls Try.prog gl #[rv, .int .i64 ((mid : Int) + (m : Int) - 1 - (c : Int)), .int .i64 (c : Int)] wr fun e w' => e = .returned (.bool (p (B.getD (mid - 1 - c) d) (A.getD (c - a) d))) ∧ St (P ++ (A ++ (B ++ Q))) w') := ⟨by
     obtain ⟨f1, f2, f3, f4⟩ := F.out
     have hmm := HM.out.2
     have := SW.out.less _ wr (P.length + (A.length + (mid - 1 - c))) (P.length + (c - a)) ((mid : Int) + (m : Int) - 1 - (c : Int)) (c : Int) H.out (by simp; omega) (by simp; omega) (by omega) (by omega)
     have e2 := getD_app d P (A ++ (B ++ Q)) (A.length + (mid - 1 - c))
     rw [getD_app d A, getD_lt d B Q _ (by omega)] at e2
     have e3 := getD_app d P (A ++ (B ++ Q)) (c - a)
     rw [getD_lt d A (B ++ Q) _ (by omega)] at e3
     rwa [e2, e3] at this⟩
    obtain ⟨r, hr⟩ : ∃ r, r = p (B.getD (mid - 1 - c) d) (A.getD (c - a) d) := ⟨_, rfl⟩
    rw [← hr] at HL
    have HR := Aside0.mk (And.intro hr.symm (And.intro hq1 hq2))
    have hq3 : (c : Int) < 1000000000 := by omega
    have hq4 : (c : Int) < (mid : Int) := by omega
    clear hr H hq1 hq2 g1 g2 g3 g4 g5 g6 g7 i1 i2 i3 i4
    cases r with
    | true =>
     go_wp2_with (refine Calls.mono HL.out ?_; rintro e w2 ⟨rfl, h2⟩; have H := Aside0.mk h2; clear h2 HL)
     go_roundg k1
     case measure => omega
     case rel => exact ⟨i, c, rfl, by go_num, ⟨by have := HR.out; have := HI.out; omega⟩, ⟨HQ.out.1, .inr HR.out.1⟩, H⟩
    | false =>
     go_wp2_with (refine Calls.mono HL.out ?_; rintro e w2 ⟨rfl, h2⟩; have H := Aside0.mk h2; clear h2 HL)
     go_roundg k1
     case measure => omega
     case rel => exact ⟨c + 1, j, by go_num, rfl, ⟨by have := HR.out; have := HI.out; omega⟩, ⟨.inr (by
      have hp := HR.out.1
      rwa [show mid - (c + 1) = mid - 1 - c by omega, show c + 1 - 1 - a = c - a by omega]), HQ.out.2⟩, H⟩
   ·have c1 : decide ((i : Int) < (j : Int)) = false := decide_eq_false (by omega)
    have c1b : decide (i < j) = false := decide_eq_false hij
    obtain rfl : i = j := by omega
    obtain ⟨A1, A2, B1, B2, hA, hB, lA, lB, hM⟩ : ∃ A1 A2 B1 B2 : List α, A = A1 ++ A2 ∧ B = B1 ++ B2 ∧ A1.length = i - a ∧ B1.length = mid - i ∧ mrg p A B = mrg p A1 B1 ++ mrg p A2 B2 := by
     obtain ⟨f1, f2, f3, f4⟩ := F.out
     refine ⟨A.take (i - a), A.drop (i - a), B.take (mid - i), B.drop (mid - i), (List.take_append_drop _ _).symm, (List.take_append_drop _ _).symm, by rw [List.length_take]; omega, by rw [List.length_take]; omega, halves (d := d) W A B (i - a) (mid - i) HS.out.1 HS.out.2 (by omega) (by omega) ?_ ?_⟩
     ·rcases HQ.out.1 with h | h
      ·rcases g6 with h6 | h6
       ·exact .inl (by omega)
       ·exact .inr (.inl (by omega))
      ·exact .inr (.inr (by rwa [show i - a - 1 = i - 1 - a by omega]))
     ·rcases HQ.out.2 with h | h
      ·rcases g7 with h6 | h6
       ·exact .inl (by omega)
       ·exact .inr (.inl (by omega))
      ·exact .inr (.inr (by rwa [show mid - i - 1 = mid - 1 - i by omega]))
    rw [← HRR.out] at hM
    clear HRR
    subst hA
    subst hB
    obtain ⟨f1, f2, f3, f4, f5⟩ := F.out
    rw [List.length_append] at f2 f3
    rw [List.length_append, List.length_append] at f4
    simp only [List.length_append] at f5
    obtain ⟨sA1, sA2, -⟩ := List.pairwise_append.1 HS.out.1
    obtain ⟨sB1, sB2, -⟩ := List.pairwise_append.1 HS.out.2
    have hmm := HM.out.2
    have T1 : Aside0 (¬ (i < m ∧ m < mid + m - i) → ∀ w', St (P ++ ((A1 ++ A2) ++ ((B1 ++ B2) ++ Q))) w' → St (P ++ (A1 ++ (B1 ++ (A2 ++ (B2 ++ Q))))) w') := ⟨by
     intro h w' hw
     rcases (show A2 = [] ∨ B1 = [] from by
      by_cases h2 : i < m
      ·exact .inr (List.length_eq_zero_iff.1 (by omega))
      ·exact .inl (List.length_eq_zero_iff.1 (by omega))) with e | e <;> subst e <;> simpa using hw⟩
    have T2 : Aside0 (¬ (a < i ∧ i < mid) → ∀ w', St (P ++ (A1 ++ (B1 ++ (A2 ++ (B2 ++ Q))))) w' → St (P ++ (mrg p A1 B1 ++ (A2 ++ (B2 ++ Q)))) w') := ⟨by
     intro h w' hw
     rcases (show A1 = [] ∨ B1 = [] from by
      by_cases h2 : a < i
      ·exact .inr (List.length_eq_zero_iff.1 (by omega))
      ·exact .inl (List.length_eq_zero_iff.1 (by omega))) with e | e
     ·subst e; rw [nil_mrg]; simpa using hw
     ·subst e; rw [mrg_nil]; simpa using hw⟩
    have T3 : Aside0 (¬ (mid < mid + m - i ∧ mid + m - i < b) → ∀ w', St (P ++ (mrg p A1 B1 ++ (A2 ++ (B2 ++ Q)))) w' → St (P ++ (R ++ Q)) w') := ⟨by
     intro h w' hw
     rw [hM]
     rcases (show A2 = [] ∨ B2 = [] from by
      by_cases h2 : mid < mid + m - i
      ·exact .inr (List.length_eq_zero_iff.1 (by omega))
      ·exact .inl (List.length_eq_zero_iff.1 (by omega))) with e | e
     ·subst e; rw [nil_mrg]; simpa using hw
     ·subst e; rw [mrg_nil]; simpa using hw⟩
    have HX : Aside0 (i < m → m < mid + m - i → ∀ w', St (P ++ ((A1 ++ A2) ++ ((B1 ++ B2) ++ Q))) w' → Calls Try.prog 63 #[.iface T rv, .int .i64 i, .int .i64 m, .int .i64 ((mid : Int) + (m : Int) - (i : Int))] w' fun e w'' => e = .returned (.tuple #[]) ∧ St (P ++ (A1 ++ (B1 ++ (A2 ++ (B2 ++ Q))))) w'') := ⟨by
     intro q1 q2 w' hw
     have := rotate_any SW.out (P ++ A1) A2 B1 (B2 ++ Q) w' i m (mid + m - i) (by simpa using hw) (by simp; omega) (by simp; omega) (by simp; omega) (by omega) (by omega) (by simp; omega)
     rw [show ((mid + m - i : Nat) : Int) = (mid : Int) + (m : Int) - (i : Int) by omega] at this
     refine this.mono ?_
     rintro e w2 ⟨he, h2⟩
     exact ⟨he, by simpa using h2⟩⟩
    have HY : Aside0 (a < i → i < mid → ∀ w', St (P ++ (A1 ++ (B1 ++ (A2 ++ (B2 ++ Q))))) w' → Calls Try.prog 55 #[.iface T rv, .int .i64 a, .int .i64 i, .int .i64 mid] w' fun e w'' => e = .returned (.tuple #[]) ∧ St (P ++ (mrg p A1 B1 ++ (A2 ++ (B2 ++ Q)))) w'') := ⟨by
     intro q1 q2 w' hw
     exact IHA.out P A1 B1 (A2 ++ (B2 ++ Q)) w' a i mid (by omega) hw f1 (by omega) (by omega) (by omega) (by omega) sA1 sB1 (by simp; omega)⟩
    have HZ : Aside0 (mid < mid + m - i → mid + m - i < b → ∀ w', St (P ++ (mrg p A1 B1 ++ (A2 ++ (B2 ++ Q)))) w' → Calls Try.prog 55 #[.iface T rv, .int .i64 mid, .int .i64 ((mid : Int) + (m : Int) - (i : Int)), .int .i64 b] w' fun e w'' => e = .returned (.tuple #[]) ∧ St (P ++ (R ++ Q)) w'') := ⟨by
     intro q1 q2 w' hw
     have hl := length_mrg (p := p) A1 B1
     have := IHA.out (P ++ mrg p A1 B1) A2 B2 Q w' mid (mid + m - i) b (by omega) (by simpa using hw) (by simp; omega) (by omega) (by omega) (by omega) (by omega) sA2 sB2 (by simp; omega)
     rw [show ((mid + m - i : Nat) : Int) = (mid : Int) + (m : Int) - (i : Int) by omega] at this
     refine this.mono ?_
     rintro e w2 ⟨he, h2⟩
     exact ⟨he, by rw [hM]; simpa using h2⟩⟩
    have him : (i : Int) ≤ (mid : Int) ∧ (i : Int) ≤ (m : Int) ∧ (a : Int) ≤ (i : Int) := by omega
    obtain ⟨him, him2, him3⟩ := him
    clear hM sA1 sA2 sB1 sB2 f1 f2 f3 f4 f5 lA lB hmm g1 g2 g3 g4 g5 g6 g7 i1 i2 i3 i4 HI HQ HG HSR IHA HS F hij
    go_wp2_with (first | (with_reducible refine Calls.mono (HX.out (by omega) (by omega) _ H.out) ?_; rintro e w2 ⟨rfl, h2⟩; have H1 := Aside0.mk h2; clear h2 H) | (with_reducible refine Calls.mono (HY.out (by omega) (by omega) _ (by first | exact H1.out | exact T1.out (by omega) _ H.out)) ?_; rintro e w3 ⟨rfl, h2⟩; have H2 := Aside0.mk h2; clear h2) | (with_reducible refine Calls.mono (HZ.out (by omega) (by omega) _ (by first | exact H2.out | exact T2.out (by omega) _ H1.out | exact T2.out (by omega) _ (T1.out (by omega) _ H.out))) ?_; rintro e w4 ⟨rfl, h2⟩; have H3 := Aside0.mk h2; clear h2))
    all_goals (go_end0; exact ⟨rfl, by first | exact H3.out | exact T3.out (by omega) _ H2.out | exact T3.out (by omega) _ (T2.out (by omega) _ H1.out) | exact T3.out (by omega) _ (T2.out (by omega) _ (T1.out (by omega) _ H.out))⟩)
end
end Go.Proofs.Ytopfjjdkffdjpaa.Q
end
section
namespace Go.Proofs.Ytopfjjdkffdjpaa.Q
open Go.RowKit Go.Proofs.YtopfjjdkffdjpaaW.PrintWords Go.Proofs.YtopfjjdkffdjpaaW.PrintLast Go.Proofs.YtopfjjdkffdjpaaW.PrintMore Go.Proofs.Ytopfjjdkffdjpaa.Srt
section
variable {α : Type} {d : α} {p : α → α → Bool} {T : TypeId} {rv : Value} {gl gs : Nat} {St : List α → World → Prop} (S : Sorter d p T rv gl gs St)
include S
theorem stable_any (W : Wo p) (L : List α) (w : World) (n : Nat) (h : St L w) (hn : n = L.length) (hz : L.length ≤ 1000000000) :
  Calls Try.prog 43 #[.iface T rv, .int .i64 n] w fun e w' => e = .returned (.tuple #[]) ∧ St (isort p L) w' := by
 have SW := Aside0.mk S
 have HN := Aside0.mk hn
 have zn : n ≤ 1000000000 := by omega
 have H : Aside0 (∃ D K : List α, D.length = 0 ∧ D.length + K.length = n ∧ D ++ sB p 20 K = sB p 20 L ∧ St (D ++ K) w) := ⟨[], L, rfl, by simpa using hn.symm, rfl, h⟩
 clear h hz S hn
 go_enter Try.func43, Try.ntmps43
 go_wp2_with fail
 go_loopg [5, 6] n (fun kq v5 v6 w' => ∃ a : Nat, v5 = .int .i64 a ∧ v6 = .int .i64 ((a : Int) + 20) ∧ Aside0 (n ≤ a + kq ∧ a ≤ n) ∧ Aside0 (∃ D K : List α, D.length = a ∧ D.length + K.length = n ∧ D ++ sB p 20 K = sB p 20 L ∧ St (D ++ K) w'))
 case atStart => exact ⟨0, rfl, rfl, ⟨by omega⟩, H⟩
 case round =>
  clear H
  obtain ⟨a, rfl, rfl, HI, H⟩ := hrel
  have ha : a ≤ n := HI.out.2
  by_cases hb : a + 20 ≤ n
  ·obtain ⟨k1, rfl⟩ : ∃ m, gk = m + 1 := ⟨gk - 1, by have := HI.out; omega⟩
   have c1 : decide ((a : Int) + 20 ≤ (n : Int)) = true := decide_eq_true (by omega)
   have c1b : decide (a + 20 ≤ n) = true := decide_eq_true hb
   have HC : Aside0 (Calls Try.prog 54 #[.iface T rv, .int .i64 a, .int .i64 ((a : Int) + 20)] wr fun e w' => e = .returned (.tuple #[]) ∧ ∃ D K : List α, D.length = a + 20 ∧ D.length + K.length = n ∧ D ++ sB p 20 K = sB p 20 L ∧ St (D ++ K) w') := ⟨by
    obtain ⟨D, K, h1, h2, h3, h4⟩ := H.out
    have e : K.take 20 ++ K.drop 20 = K := List.take_append_drop _ _
    have l20 : (K.take 20).length = 20 := by rw [List.length_take]; omega
    have := insertionSort_any SW.out W D (K.take 20) (K.drop 20) wr a (a + 20) (by rw [e]; exact h4) h1.symm (by omega) (by rw [e, List.length_append]; omega)
    rw [show ((a + 20 : Nat) : Int) = (a : Int) + 20 by omega] at this
    refine this.mono ?_
    rintro e w2 ⟨he, h5⟩
    refine ⟨he, D ++ isort p (K.take 20), K.drop 20, by rw [List.length_append, length_isort, l20, h1], by rw [List.length_append, length_isort, l20, List.length_drop]; omega, ?_, by rw [List.append_assoc]; exact h5⟩
    rw [← h3, sB_step p (by omega) (show 20 ≤ K.length by omega), List.append_assoc]⟩
   clear H
   go_wp2_with (refine Calls.mono HC.out ?_; rintro e w2 ⟨rfl, h2⟩; have H := Aside0.mk h2; clear h2 HC)
   go_roundg k1
   case measure => omega
   case rel => exact ⟨a + 20, by go_num, by go_num, ⟨by have := HI.out; omega⟩, H⟩
  ·have c1 : decide ((a : Int) + 20 ≤ (n : Int)) = false := decide_eq_false (by omega)
   have c1b : decide (a + 20 ≤ n) = false := decide_eq_false hb
   have HC : Aside0 (Calls Try.prog 54 #[.iface T rv, .int .i64 a, .int .i64 n] wr fun e w' => e = .returned (.tuple #[]) ∧ St (sB p 20 L) w') := ⟨by
    obtain ⟨D, K, h1, h2, h3, h4⟩ := H.out
    have := insertionSort_any SW.out W D K [] wr a n (by simpa using h4) h1.symm (by omega) (by simp; omega)
    refine this.mono ?_
    rintro e w2 ⟨he, h5⟩
    refine ⟨he, ?_⟩
    rw [← h3, sB_small p (show K.length ≤ 20 by omega)]
    simpa using h5⟩
   clear H HI
   go_wp2_with (refine Calls.mono HC.out ?_; rintro e w2 ⟨rfl, h2⟩; have H := Aside0.mk h2; clear h2 HC)
   clear c1 c1b hb ha
   go_loopg [4, 5, 6, 7] n (fun kq v4 v5 v6 v7 w' => ∃ s : Nat, v4 = .int .i64 s ∧ Aside0 (0 < s ∧ n ≤ s + kq ∧ s ≤ 3000000000) ∧ Aside0 (St (sB p s L) w'))
   case atStart => exact ⟨20, rfl, ⟨by omega⟩, H⟩
   case round =>
    clear H
    obtain ⟨s, rfl, HI, H⟩ := hrel
    obtain ⟨q1, q2, q3⟩ := HI.out
    by_cases hs : s < n
    ·obtain ⟨k1, rfl⟩ : ∃ m, gk = m + 1 := ⟨gk - 1, by omega⟩
     have c1 : decide ((s : Int) < (n : Int)) = true := decide_eq_true (by omega)
     have c1b : decide (s < n) = true := decide_eq_true hs
     have H0 : Aside0 (∃ D K : List α, D.length = 0 ∧ D.length + K.length = n ∧ D ++ sB p (2 * s) K = sB p (2 * s) L ∧ St (D ++ sB p s K) wr) := ⟨[], L, rfl, by have := HN.out; simp; omega, rfl, H.out⟩
     have HG := Aside0.mk (And.intro q1 (And.intro q2 hs))
     clear H q2 q3
     go_wp2_with fail
     clear c1 c1b
     go_loopg [5, 6] n (fun kq v5 v6 w' => ∃ a : Nat, v5 = .int .i64 a ∧ v6 = .int .i64 ((a : Int) + 2 * (s : Int)) ∧ Aside0 (n ≤ a + kq ∧ a ≤ n) ∧ Aside0 (∃ D K : List α, D.length = a ∧ D.length + K.length = n ∧ D ++ sB p (2 * s) K = sB p (2 * s) L ∧ St (D ++ sB p s K) w'))
     case atStart => exact ⟨0, rfl, by go_num, ⟨by omega⟩, H0⟩
     case round =>
      clear H0
      obtain ⟨a, rfl, rfl, HJ, H⟩ := hrel
      have ha : a ≤ n := HJ.out.2
      by_cases hb : a + 2 * s ≤ n
      ·obtain ⟨k2, rfl⟩ : ∃ m, gk = m + 1 := ⟨gk - 1, by have := HJ.out; omega⟩
       have c1 : decide ((a : Int) + 2 * (s : Int) ≤ (n : Int)) = true := decide_eq_true (by omega)
       have c1b : decide (a + 2 * s ≤ n) = true := decide_eq_true hb
       have HC : Aside0 (Calls Try.prog 55 #[.iface T rv, .int .i64 a, .int .i64 ((a : Int) + (s : Int)), .int .i64 ((a : Int) + 2 * (s : Int))] wr fun e w' => e = .returned (.tuple #[]) ∧ ∃ D K : List α, D.length = a + 2 * s ∧ D.length + K.length = n ∧ D ++ sB p (2 * s) K = sB p (2 * s) L ∧ St (D ++ sB p s K) w') := ⟨by
        obtain ⟨D, K, h1, h2, h3, h4⟩ := H.out
        have e : K.take (2 * s) = K.take s ++ (K.drop s).take s := by rw [show 2 * s = s + s by omega, List.take_add]
        have e2 : (K.drop s).drop s = K.drop (2 * s) := by rw [List.drop_drop]; congr 1; omega
        have l1 : (K.take s).length = s := by rw [List.length_take]; omega
        have l2 : ((K.drop s).take s).length = s := by rw [List.length_take, List.length_drop]; omega
        have l3 : (sB p s (K.drop (2 * s))).length = K.length - 2 * s := by rw [length_sB p q1 _ _ (Nat.le_refl _), List.length_drop]
        rw [sB_step p q1 (show s ≤ K.length by omega), sB_step p q1 (show s ≤ (K.drop s).length by rw [List.length_drop]; omega), e2] at h4
        have := symMerge_any SW.out W _ D (isort p (K.take s)) (isort p ((K.drop s).take s)) (sB p s (K.drop (2 * s))) wr a (a + s) (a + 2 * s) (Nat.le_refl _) h4 h1.symm (by rw [length_isort]; omega) (by rw [length_isort]; omega) (by rw [length_isort]; omega) (by rw [length_isort]; omega) (isort_srtd W _) (isort_srtd W _) (by simp only [List.length_append, length_isort, l1, l2, l3]; omega)
        rw [show ((a + s : Nat) : Int) = (a : Int) + (s : Int) by omega, show ((a + 2 * s : Nat) : Int) = (a : Int) + 2 * (s : Int) by omega, ← isort_append W, ← e] at this
        refine this.mono ?_
        rintro e w2 ⟨he, h5⟩
        refine ⟨he, D ++ isort p (K.take (2 * s)), K.drop (2 * s), by rw [List.length_append, length_isort, List.length_take]; omega, by rw [List.length_append, length_isort, List.length_take, List.length_drop]; omega, ?_, by rw [List.append_assoc]; exact h5⟩
        rw [← h3, sB_step p (by omega) (show 2 * s ≤ K.length by omega), List.append_assoc]⟩
       clear H
       go_wp2_with (refine Calls.mono HC.out ?_; rintro e w2 ⟨rfl, h2⟩; have H := Aside0.mk h2; clear h2 HC)
       go_roundg k2
       case measure => omega
       case rel => exact ⟨a + 2 * s, by go_num, by go_num, ⟨by have := HJ.out; omega⟩, H⟩
      ·have c1 : decide ((a : Int) + 2 * (s : Int) ≤ (n : Int)) = false := decide_eq_false (by omega)
       have c1b : decide (a + 2 * s ≤ n) = false := decide_eq_false hb
       have q1' : (1 : Int) ≤ (s : Int) := by omega
       by_cases hm : a + s < n
       ·have c2 : decide ((a : Int) + (s : Int) < (n : Int)) = true := decide_eq_true (by omega)
        have c2b : decide (a + s < n) = true := decide_eq_true hm
        have HC : Aside0 (Calls Try.prog 55 #[.iface T rv, .int .i64 a, .int .i64 ((a : Int) + (s : Int)), .int .i64 n] wr fun e w' => e = .returned (.tuple #[]) ∧ St (sB p (2 * s) L) w') := ⟨by
         obtain ⟨D, K, h1, h2, h3, h4⟩ := H.out
         have l1 : (K.take s).length = s := by rw [List.length_take]; omega
         rw [sB_step p q1 (show s ≤ K.length by omega), sB_small p (show (K.drop s).length ≤ s by rw [List.length_drop]; omega)] at h4
         have := symMerge_any SW.out W _ D (isort p (K.take s)) (isort p (K.drop s)) [] wr a (a + s) n (Nat.le_refl _) (by simpa using h4) h1.symm (by rw [length_isort]; omega) (by rw [length_isort, List.length_drop]; omega) (by rw [length_isort]; omega) (by rw [length_isort, List.length_drop]; omega) (isort_srtd W _) (isort_srtd W _) (by simp only [List.length_append, length_isort, l1, List.length_drop, List.length_nil]; omega)
         rw [show ((a + s : Nat) : Int) = (a : Int) + (s : Int) by omega, ← isort_append W, List.take_append_drop] at this
         refine this.mono ?_
         rintro e w2 ⟨he, h5⟩
         refine ⟨he, ?_⟩
         rw [← h3, sB_small p (show K.length ≤ 2 * s by omega)]
         simpa using h5⟩
        clear H
        go_wp2_with (refine Calls.mono HC.out ?_; rintro e w2 ⟨rfl, h2⟩; have H := Aside0.mk h2; clear h2 HC)
        go_roundg k1
        case measure => have := HG.out; omega
        case rel => exact ⟨2 * s, by go_num, ⟨by have := HG.out; omega⟩, H⟩
       ·have c2 : decide ((a : Int) + (s : Int) < (n : Int)) = false := decide_eq_false (by omega)
        have c2b : decide (a + s < n) = false := decide_eq_false hm
        have H2 : Aside0 (St (sB p (2 * s) L) wr) := ⟨by
         obtain ⟨D, K, h1, h2, h3, h4⟩ := H.out
         rw [← h3, sB_small p (show K.length ≤ 2 * s by omega)]
         rwa [sB_small p (show K.length ≤ s by omega)] at h4⟩
        clear H
        go_wp2_with fail
        go_roundg k1
        case measure => have := HG.out; omega
        case rel => exact ⟨2 * s, by go_num, ⟨by have := HG.out; omega⟩, H2⟩
    ·have c1 : decide ((s : Int) < (n : Int)) = false := decide_eq_false (by omega)
     have c1b : decide (s < n) = false := decide_eq_false hs
     have H1 : Aside0 (St (isort p L) wr) := ⟨by
      have h2 := H.out
      rwa [sB_small p (show L.length ≤ s by have := HN.out; omega)] at h2⟩
     clear H
     go_wp2_with fail
     go_end0
     exact ⟨rfl, H1.out⟩
theorem Stable_any (W : Wo p) {gn : Nat} (mN : ∀ w, Sem.run Try.prog (method 233 T rv "Len") w = .ok (gn, rv) w) (eN : ∀ args w, (callFunc gn args).run Try.prog w = .ok (.enter gn args) w)
  (L : List α) (w : World) (hlen : Calls Try.prog gn #[rv] w fun e w' => e = .returned (.int .i64 L.length) ∧ St L w') (hz : L.length ≤ 1000000000) :
  Calls Try.prog 30 #[.iface T rv] w fun e w' => e = .returned (.tuple #[]) ∧ St (isort p L) w' := by
 have SW := Aside0.mk S
 have HL := Aside0.mk hlen
 have HZ := Aside0.mk hz
 clear S hlen hz
 go_enter Try.func30, Try.ntmps30
 go_wp2_with (refine Calls.mono HL.out ?_; rintro e w2 ⟨rfl, h2⟩; have H := Aside0.mk h2; clear h2 HL)
 go_wp2_with (refine Calls.mono (stable_any SW.out W L _ _ H.out rfl HZ.out) ?_; rintro e w2 ⟨rfl, h2⟩; have H1 := Aside0.mk h2; clear h2)
 go_end0
 exact ⟨rfl, H1.out⟩
end
end Go.Proofs.Ytopfjjdkffdjpaa.Q
end
section
namespace Go.Proofs.Ytopfjjdkffdjpaa.Q
open Go.RowKit Go.Proofs.YtopfjjdkffdjpaaW.PrintWords Go.Proofs.YtopfjjdkffdjpaaW.PrintLast Go.Proofs.YtopfjjdkffdjpaaW.PrintMore
attribute [local go_sem] max2_int min2_int max_two min_two max_three min_three max_four min_four
def precedence_Precedes.f (a0_0 : Int) (a0_1 : Int) (a0_2 : Int) (a0_3 : ByteArray) (a1_0 : Int) (a1_1 : Int) (a1_2 : Int) (a1_3 : ByteArray) : Option (Bool) := if a0_2 = a1_2 then (if a0_0 = a1_0 then (some (decide (a0_1 < a1_1))) else (some (decide (a0_0 < a1_0)))) else (some (decide (a0_2 < a1_2)))
theorem precedence_Precedes.calls (a0_0 : Int) (a0_1 : Int) (a0_2 : Int) (a0_3 : ByteArray) (a1_0 : Int) (a1_1 : Int) (a1_2 : Int) (a1_3 : ByteArray) (r : Bool) (w : World) (h : precedence_Precedes.f a0_0 a0_1 a0_2 a0_3 a1_0 a1_1 a1_2 a1_3 = some r) :
  Calls Try.prog 12 #[.agg #[.int .i64 a0_0, .int .i64 a0_1, .int .i64 a0_2, .string a0_3], .agg #[.int .i64 a1_0, .int .i64 a1_1, .int .i64 a1_2, .string a1_3]] w fun e w' => e = .returned (.bool r) ∧ Below w.heap.size w w' := by
 have hu28 := Try.underlying28
 have HB := am_ (Below.refl w.heap.size w)
 have H := h
 clear h
 unfold precedence_Precedes.f at H
 by_cases c3 : a0_2 = a1_2
 rotate_left
 ·rw [if_neg c3] at H
  have c3b0 : (a0_2 == a1_2) = false := beq_eq_false_iff_ne.mpr c3
  have c3b1 : (a0_2 != a1_2) = true := bne_iff_ne.mpr c3
  obtain rfl := Option.some.inj H
  go_enter Try.func12, Try.ntmps12
  go_wp2_with (first | ((with_reducible refine gate_dst (N := 2) rfl ?_); refine bx_ (w := w) (N := 2) (cs := #[.int .i64 a0_0, .int .i64 a0_1, .int .i64 a0_2, .string a0_3]) (t := 28) ?_; intro gb101 w15 BK101 n0_ GW101 GE101; clear HB; have HB := n0_; clear n0_) | ((with_reducible refine gate_dst (N := 3) rfl ?_); refine be_ (N := 3) (cs := #[.int .i64 a1_0, .int .i64 a1_1, .int .i64 a1_2, .string a1_3]) (t := 28) ?_; intro gb102 hg w16 hbox hb; have BK102 := am_ (hbox); have GW102 := gw_ (w := w) hg; have GE102 := gw_ (w := w) hg; replace HB := bt_ hb; have NB101_102 := ne_ hg BK101; have NB102_101 := nf_ hg BK101; replace BK101 := bw_ BK101 hb; clear hb hbox hg; have hnb17 := NB101_102.out; have hnc17 := NB102_101.out; obtain ⟨hcz18_0, hcz18_1, hcz18_2, hcz18_3⟩ := cz4_ BK101.out; obtain ⟨hfz18_0, hfz18_1, hfz18_2, hfz18_3⟩ := fz4_ BK101.out; obtain ⟨hcz19_0, hcz19_1, hcz19_2, hcz19_3⟩ := cz4_ BK102.out; obtain ⟨hfz19_0, hfz19_1, hfz19_2, hfz19_3⟩ := fz4_ BK102.out))
  go_ret
  exact rt_
 rw [if_pos c3] at H
 have c3b0 : (a0_2 == a1_2) = true := beq_iff_eq.mpr c3
 have c3b1 : (a0_2 != a1_2) = false := bne_eq_false_iff_eq.mpr c3
 clear c3
 by_cases c4 : a0_0 = a1_0
 ·rw [if_pos c4] at H
  have c4b0 : (a0_0 == a1_0) = true := beq_iff_eq.mpr c4
  have c4b1 : (a0_0 != a1_0) = false := bne_eq_false_iff_eq.mpr c4
  clear c4
  obtain rfl := Option.some.inj H
  go_enter Try.func12, Try.ntmps12
  go_wp2_with (first | ((with_reducible refine gate_dst (N := 2) rfl ?_); refine bx_ (w := w) (N := 2) (cs := #[.int .i64 a0_0, .int .i64 a0_1, .int .i64 a0_2, .string a0_3]) (t := 28) ?_; intro gb101 w5 BK101 n0_ GW101 GE101; clear HB; have HB := n0_; clear n0_) | ((with_reducible refine gate_dst (N := 3) rfl ?_); refine be_ (N := 3) (cs := #[.int .i64 a1_0, .int .i64 a1_1, .int .i64 a1_2, .string a1_3]) (t := 28) ?_; intro gb102 hg w6 hbox hb; have BK102 := am_ (hbox); have GW102 := gw_ (w := w) hg; have GE102 := gw_ (w := w) hg; replace HB := bt_ hb; have NB101_102 := ne_ hg BK101; have NB102_101 := nf_ hg BK101; replace BK101 := bw_ BK101 hb; clear hb hbox hg; have hnb7 := NB101_102.out; have hnc7 := NB102_101.out; obtain ⟨hcz8_0, hcz8_1, hcz8_2, hcz8_3⟩ := cz4_ BK101.out; obtain ⟨hfz8_0, hfz8_1, hfz8_2, hfz8_3⟩ := fz4_ BK101.out; obtain ⟨hcz9_0, hcz9_1, hcz9_2, hcz9_3⟩ := cz4_ BK102.out; obtain ⟨hfz9_0, hfz9_1, hfz9_2, hfz9_3⟩ := fz4_ BK102.out))
  go_ret
  exact rt_
 rw [if_neg c4] at H
 have c4b0 : (a0_0 == a1_0) = false := beq_eq_false_iff_ne.mpr c4
 have c4b1 : (a0_0 != a1_0) = true := bne_iff_ne.mpr c4
 obtain rfl := Option.some.inj H
 go_enter Try.func12, Try.ntmps12
 go_wp2_with (first | ((with_reducible refine gate_dst (N := 2) rfl ?_); refine bx_ (w := w) (N := 2) (cs := #[.int .i64 a0_0, .int .i64 a0_1, .int .i64 a0_2, .string a0_3]) (t := 28) ?_; intro gb101 w10 BK101 n0_ GW101 GE101; clear HB; have HB := n0_; clear n0_) | ((with_reducible refine gate_dst (N := 3) rfl ?_); refine be_ (N := 3) (cs := #[.int .i64 a1_0, .int .i64 a1_1, .int .i64 a1_2, .string a1_3]) (t := 28) ?_; intro gb102 hg w11 hbox hb; have BK102 := am_ (hbox); have GW102 := gw_ (w := w) hg; have GE102 := gw_ (w := w) hg; replace HB := bt_ hb; have NB101_102 := ne_ hg BK101; have NB102_101 := nf_ hg BK101; replace BK101 := bw_ BK101 hb; clear hb hbox hg; have hnb12 := NB101_102.out; have hnc12 := NB102_101.out; obtain ⟨hcz13_0, hcz13_1, hcz13_2, hcz13_3⟩ := cz4_ BK101.out; obtain ⟨hfz13_0, hfz13_1, hfz13_2, hfz13_3⟩ := fz4_ BK101.out; obtain ⟨hcz14_0, hcz14_1, hcz14_2, hcz14_3⟩ := cz4_ BK102.out; obtain ⟨hfz14_0, hfz14_1, hfz14_2, hfz14_3⟩ := fz4_ BK102.out))
 go_ret
 exact rt_
end Go.Proofs.Ytopfjjdkffdjpaa.Q
end
