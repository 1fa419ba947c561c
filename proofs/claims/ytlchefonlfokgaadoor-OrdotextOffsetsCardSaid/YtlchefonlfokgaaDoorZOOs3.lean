/- What is proved: what the statement OrdotextOffsetsSaid needs, part 4 of 12; the last part proves the statement. No condition. -/
import Derived.Test.YtlchefonlfokgaaDoorZOOs2
import Derived.Defers
import Derived.Recover
import Derived.WalkLawsBesides
set_option maxHeartbeats 8000000
set_option maxRecDepth 100000
set_option linter.unusedVariables false
set_option linter.unusedSimpArgs false
section
namespace Go.Proofs.YtlchefonlfokgaaDoor.Q
open Go.RowKit Go.Proofs.YtlchefonlfokgaaDoorW.PrintWords Go.Proofs.YtlchefonlfokgaaDoorW.PrintLast Go.Proofs.YtlchefonlfokgaaDoorW.PrintMore
def PredOk (w0 w : World) (g : Nat) (s : ByteArray) (i : Int) (bad : Bool) (f : Nat) (cap : Array Value) (p : Int → Bool) : Prop :=
 (∀ (args : Array Value) (W : World), (callFunc f args).run Tryd.prog W = .ok (.enter f args) W) ∧ ∀ W, KeepBut w W g none → IsS77 w0 W g s i bad → Below w0.heap.size w0 W → ∀ c : Int, 0 ≤ c → c ≤ 255 →
  Calls Tryd.prog f (#[.int .u8 c] ++ cap) W fun e W' => e = .returned (.bool (p c)) ∧ IsS77 w0 W' g s i bad ∧ Below w0.heap.size w0 W' ∧ KeepBut W W' g none
def scTake (s : ByteArray) (i : Nat) (p : Int → Bool) : Bool := decide (i < s.size) && p (bt s i)
theorem next_some (s : ByteArray) (i : Nat) (bad : Bool) (h : i < s.size) : linescan_Scanner_next.f s (i : Int) bad = some (bt s i, true, s, (i : Int), bad) := by
 unfold linescan_Scanner_next.f
 rw [if_neg (by omega), if_pos (by omega), if_pos (by omega)]
theorem next_none (s : ByteArray) (i : Nat) (bad : Bool) (h : ¬ i < s.size) : linescan_Scanner_next.f s (i : Int) bad = some (0, false, s, (i : Int), bad) := by
 unfold linescan_Scanner_next.f
 rw [if_pos (by omega)]
theorem take_any (w0 w : World) (g : Nat) (s : ByteArray) (i : Nat) (bad : Bool) (f : Nat) (cap : Array Value) (p : Int → Bool) (hI : IsS77 w0 w g s (i : Int) bad) (hB : Below w0.heap.size w0 w) (hs : s.size ≤ 4611686018427387904)
  (hp : PredOk w0 w g s (i : Int) bad f cap p) :
  Calls Tryd.prog 76 #[.pointer (some ⟨g, 0, none⟩), .func (.func f) #[] cap] w fun e w' => e = .returned (.bool (scTake s i p)) ∧ IsS77 w0 w' g s (if scTake s i p then ((i + 1 : Nat) : Int) else (i : Int)) bad ∧ Below w0.heap.size w0 w' ∧ KeepBut w w' g none := by
 have HP := Aside0.mk hp.2
 have hcf := hp.1
 have HI := Aside0.mk hI
 have HB := Aside0.mk hB
 clear hp hI hB
 by_cases h : i < s.size
 ·have hn := Aside0.mk (next_some s i bad h)
  have hb0 := bt_range s i
  have hst : scTake s i p = p (bt s i) := by simp [scTake, h]
  rw [hst]
  clear hst
  obtain ⟨b, hb⟩ : ∃ b, p (bt s i) = b := ⟨_, rfl⟩
  rw [hb]
  have HPB := Aside0.mk hb
  clear hb
  cases b with
  | false =>
   go_enter Tryd.func76, Tryd.ntmps76
   go_wp2_with (first | (go_at_call 87; refine (linescan_Scanner_next.calls g s (i : Int) bad _ _ _ _ _ w0 _ HI.out HB.out hn.out).mono ?_; rintro e w1 ⟨rfl, hI1, hB1, hK1⟩; have n0_ := Aside0.mk hI1; have n1_ := Aside0.mk hB1; have n2_ := Aside0.mk hK1; clear HI HB hI1 hB1 hK1; have HI := n0_; have HB := n1_; have HK := n2_; clear n0_ n1_ n2_) | (refine (HP.out _ HK.out HI.out HB.out _ hb0.1 hb0.2).mono ?_; rintro e w2 ⟨rfl, hI1, hB1, hK1⟩; rw [HPB.out]; have n0_ := Aside0.mk hI1; have n1_ := Aside0.mk hB1; have n2_ := Aside0.mk (KeepBut.trans HK.out hK1 (.inl rfl)); clear HI HB HK hI1 hB1 hK1; have HI := n0_; have HB := n1_; have HK := n2_; clear n0_ n1_ n2_))
   go_ret
   exact ⟨rfl, HI.out, HB.out, HK.out⟩
  | true =>
   go_enter Tryd.func76, Tryd.ntmps76
   go_wp2_with (first | (go_at_call 87; refine (linescan_Scanner_next.calls g s (i : Int) bad _ _ _ _ _ w0 _ HI.out HB.out hn.out).mono ?_; rintro e w1 ⟨rfl, hI1, hB1, hK1⟩; have n0_ := Aside0.mk hI1; have n1_ := Aside0.mk hB1; have n2_ := Aside0.mk hK1; clear HI HB hI1 hB1 hK1; have HI := n0_; have HB := n1_; have HK := n2_; clear n0_ n1_ n2_) | (refine (HP.out _ HK.out HI.out HB.out _ hb0.1 hb0.2).mono ?_; rintro e w2 ⟨rfl, hI1, hB1, hK1⟩; rw [HPB.out]; have n0_ := Aside0.mk hI1; have n1_ := Aside0.mk hB1; have n2_ := Aside0.mk (KeepBut.trans HK.out hK1 (.inl rfl)); clear HI HB HK hI1 hB1 hK1; have HI := n0_; have HB := n1_; have HK := n2_; clear n0_ n1_ n2_; have hcl := cellS77_1 HI.out.1; have hfz := blk_frozen HI.out.1 1))
   go_ret
   exact ⟨rfl, HI.out.set_1 ((i + 1 : Nat) : Int), below_set HB.out HI.out.2, HK.out.set_ 1 _⟩
 ·have hn := Aside0.mk (next_none s i bad h)
  have hst : scTake s i p = false := by simp [scTake, h]
  rw [hst]
  clear hst
  go_enter Tryd.func76, Tryd.ntmps76
  go_wp2_with (first | (go_at_call 87; refine (linescan_Scanner_next.calls g s (i : Int) bad _ _ _ _ _ w0 _ HI.out HB.out hn.out).mono ?_; rintro e w1 ⟨rfl, hI1, hB1, hK1⟩; have n0_ := Aside0.mk hI1; have n1_ := Aside0.mk hB1; have n2_ := Aside0.mk hK1; clear HI HB hI1 hB1 hK1; have HI := n0_; have HB := n1_; have HK := n2_; clear n0_ n1_ n2_))
  go_ret
  exact ⟨rfl, HI.out, HB.out, HK.out⟩
def scFail : List PanicEntry := [{ v := .iface 87 (.agg #[]), recovered := false }]
theorem must_yes (w0 w : World) (g : Nat) (s : ByteArray) (i : Nat) (bad : Bool) (f : Nat) (cap : Array Value) (p : Int → Bool) (hI : IsS77 w0 w g s (i : Int) bad) (hB : Below w0.heap.size w0 w) (hs : s.size ≤ 4611686018427387904)
  (hp : PredOk w0 w g s (i : Int) bad f cap p) (ht : scTake s i p = true) :
  Calls Tryd.prog 45 #[.pointer (some ⟨g, 0, none⟩), .func (.func f) #[] cap] w fun e w' => e = .returned (.tuple #[]) ∧ IsS77 w0 w' g s ((i + 1 : Nat) : Int) bad ∧ Below w0.heap.size w0 w' ∧ KeepBut w w' g none := by
 have HT := Aside0.mk (take_any w0 w g s i bad f cap p hI hB hs hp)
 rw [ht] at HT
 clear hI hB hp ht
 go_enter Tryd.func45, Tryd.ntmps45
 go_wp2_with (first | (go_at_call 76; refine HT.out.mono ?_; rintro e w1 ⟨rfl, hI1, hB1, hK1⟩; have n0_ := Aside0.mk hI1; have n1_ := Aside0.mk hB1; have n2_ := Aside0.mk hK1; clear HT hI1 hB1 hK1; have HI := n0_; have HB := n1_; have HK := n2_; clear n0_ n1_ n2_))
 go_end0
 exact ⟨rfl, HI.out, HB.out, HK.out⟩
theorem must_no (w0 w : World) (g : Nat) (s : ByteArray) (i : Nat) (bad : Bool) (f : Nat) (cap : Array Value) (p : Int → Bool) (hI : IsS77 w0 w g s (i : Int) bad) (hB : Below w0.heap.size w0 w) (hs : s.size ≤ 4611686018427387904)
  (hp : PredOk w0 w g s (i : Int) bad f cap p) (ht : scTake s i p = false) :
  Calls Tryd.prog 45 #[.pointer (some ⟨g, 0, none⟩), .func (.func f) #[] cap] w fun e w' => e = .panicked scFail ∧ IsS77 w0 w' g s (i : Int) bad ∧ Below w0.heap.size w0 w' ∧ KeepBut w w' g none := by
 have HT := Aside0.mk (take_any w0 w g s i bad f cap p hI hB hs hp)
 rw [ht] at HT
 have hu := Tryd.underlying87
 clear hI hB hp ht
 go_enter Tryd.func45, Tryd.ntmps45
 go_wp2_with (first | (go_at_call 76; refine HT.out.mono ?_; rintro e w1 ⟨rfl, hI1, hB1, hK1⟩; have n0_ := Aside0.mk hI1; have n1_ := Aside0.mk hB1; have n2_ := Aside0.mk hK1; clear HT hI1 hB1 hK1; have HI := n0_; have HB := n1_; have HK := n2_; clear n0_ n1_ n2_))
 exact ⟨rfl, rfl, HI.out, HB.out, HK.out⟩
theorem catch_panic (w0 W : World) (g bx bok : Nat) (s : ByteArray) (i : Int) (bad b0 : Bool) (hI : IsS77 w0 W g s i bad) (hx : W.heap[bx]? = some (.cells #[.pointer (some ⟨g, 0, none⟩)] 45 (0, 0))) (hk : W.heap[bok]? = some (.cells #[.bool b0] 4 (0, 0))) (hne : g ≠ bok) :
  CallsD Tryd.prog 75 #[.pointer (some ⟨bx, 0, none⟩), .pointer (some ⟨bok, 0, none⟩)] (.panicking scFail) W fun e u' w' =>
   e = .returned (.tuple #[]) ∧ u' = .panicking [{ v := .iface 87 (.agg #[]), recovered := true }] ∧ w' = ((W.setCell ⟨g, 2, none⟩ (.bool true)).setCell ⟨bok, 0, none⟩ (.bool false)).alloc (.cells #[] 87) := by
 have hxc : W.cell? ⟨bx, 0, none⟩ = some (.pointer (some ⟨g, 0, none⟩)) := blk_cell hx 0
 have hkc : W.cell? ⟨bok, 0, none⟩ = some (.bool b0) := blk_cell hk 0
 have hkf := blk_frozen hk 0
 have hgc := cellS77_2 hI.1
 have hgf := blk_frozen hI.1 2
 have hne2 : ¬ bok = g := fun e => hne e.symm
 have hta : ∀ (v : Value) (W : World), (Instr.typeAssert (.iface 87 v) 20 87 true).run Tryd.prog W = .ok (.tuple #[v, .bool true]) W := fun v W => by rfl
 have lg := blk_lt hI.1
 have lk := blk_lt hk
 have lx := blk_lt hx
 have hu89 := Tryd.underlying87
 refine callsD_of_wpS Tryd.func75 rfl fun c₀ cs hu => ?_
 apply wpS_seq
 apply wpS_region
 simp [wpOpsS, go_sem, recoverD, hu, scFail, Tryd.ntmps75, Exit.thenS]
 apply wpS_seq
 apply wpS_region
 simp [wpOpsS, go_sem, Exit.thenS]
 refine wpS_cond (t := true) (by simp [Act.eval]) ?_
 simp only [if_true]
 apply wpS_seq
 apply wpS_seq
 apply wpS_region
 simp [wpOpsS, go_sem, Exit.thenS, hta]
 apply wpS_seq
 apply wpS_region
 simp [wpOpsS, go_sem, Exit.thenS]
 refine wpS_cond (t := false) (by simp [Act.eval]) ?_
 simp only [Bool.false_eq_true, if_false]
 refine wpS_of_wp (wp_skip ?_)
 simp only [Exit.thenS]
 apply wpS_region
 simp [wpOpsS, go_sem, Exit.thenS, hxc, hgc, hgf, hkc, hkf, lg, lk, lx]
 simp [bodyPostS, results, Tryd.results75]
theorem catch_idle (W : World) (bx bok : Nat) :
  CallsD Tryd.prog 75 #[.pointer (some ⟨bx, 0, none⟩), .pointer (some ⟨bok, 0, none⟩)] .returning W fun e u' w' =>
   e = .returned (.tuple #[]) ∧ u' = .returning ∧ w' = W := by
 refine callsD_of_wpS Tryd.func75 rfl fun c₀ cs hu => ?_
 apply wpS_seq
 apply wpS_region
 simp [wpOpsS, go_sem, recoverD, hu, Tryd.ntmps75, Exit.thenS]
 apply wpS_seq
 apply wpS_region
 simp [wpOpsS, go_sem, Exit.thenS]
 refine wpS_cond (t := false) (by simp [Act.eval]) ?_
 simp only [Bool.false_eq_true, if_false]
 refine wpS_of_wp (wp_skip ?_)
 cases c₀
 simp_all [bodyPostS, results, Tryd.results75]
def ScanOk (w : World) (f : Nat) (cap : Array Value) (ok : Bool) (T : World → Prop) : Prop :=
 (∀ (args : Array Value) (W : World), (callFunc f args).run Tryd.prog W = .ok (.enter f args) W) ∧ ∀ W, Below w.heap.size w W →
  Calls Tryd.prog f cap W fun e W' => e = (if ok then .returned (.tuple #[]) else .panicked scFail) ∧ W.heap.size ≤ W'.heap.size ∧ (∀ k, w.heap.size ≤ k → k < W.heap.size → W'.heap[k]? = W.heap[k]?) ∧ T W'
theorem guard_ok (w0 w : World) (g : Nat) (s : ByteArray) (i j : Int) (f : Nat) (cap : Array Value) (T : World → Prop) (hI : IsS77 w0 w g s i false) (hs : ScanOk w f cap true T) :
  Calls Tryd.prog 43 #[.pointer (some ⟨g, 0, none⟩), .func (.func f) #[] cap] w fun e w' => e = .returned (.bool true) ∧ ∃ W1, T W1 ∧ w.heap.size + 2 ≤ W1.heap.size ∧ w' = W1.setCell ⟨w.heap.size + 1, 0, none⟩ (.bool true) := by
 have hmf : ∀ (fn : Fn) (first cap : Array Value) (w : World), (Instr.makeFunc fn first cap).run Tryd.prog w = .ok (.func fn first cap) w := fun _ _ _ _ => rfl
 have hcf := hs.1
 have HS := Aside0.mk hs.2
 have hgc := cellS77_2 hI.1
 have lg := blk_lt hI.1
 have HI := Aside0.mk hI
 clear hs hI
 go_enter_defers Tryd.func43, Tryd.ntmps43
 have HBl : Below w.heap.size w ((w.alloc (.cells #[.pointer (some ⟨g, 0, none⟩)] 45)).alloc (.cells #[.bool false] 4)) := ((Below.refl _ w).alloc (Nat.le_refl _) _).alloc (Nat.le_of_lt (by rw [World.size_alloc]; exact Nat.lt_succ_self _)) _
 have hz2 : ((w.alloc (.cells #[.pointer (some ⟨g, 0, none⟩)] 45)).alloc (.cells #[.bool false] 4)).heap.size = w.heap.size + 2 := by simp
 have hx2 : ((w.alloc (.cells #[.pointer (some ⟨g, 0, none⟩)] 45)).alloc (.cells #[.bool false] 4)).heap[w.heap.size]? = some (.cells #[.pointer (some ⟨g, 0, none⟩)] 45 (0, 0)) := blk_alloc (blk_new w _) _
 have hk2 : ((w.alloc (.cells #[.pointer (some ⟨g, 0, none⟩)] 45)).alloc (.cells #[.bool false] 4)).heap[w.heap.size + 1]? = some (.cells #[.bool false] 4 (0, 0)) := by have h := blk_new (w.alloc (.cells #[.pointer (some ⟨g, 0, none⟩)] 45)) (.cells #[.bool false] 4); rw [World.size_alloc] at h; exact h
 have HF := Aside0.mk (And.intro HBl (And.intro hz2 (And.intro hx2 hk2)))
 clear HBl hz2 hx2 hk2
 go_wp2_with (refine Calls.mono (HS.out _ HF.out.1) ?_; rintro e w1 ⟨he, hz1, hk1, hT1⟩; simp only [if_true] at he; subst he; have hx1 := (hk1 w.heap.size (Nat.le_refl _) (by rw [HF.out.2.1]; omega)).trans HF.out.2.2.1; have hy1 := (hk1 (w.heap.size + 1) (by omega) (by rw [HF.out.2.1]; omega)).trans HF.out.2.2.2; have hkc := blk_cell hy1 0; have hkf := blk_frozen hy1 0; have HW := Aside0.mk (And.intro hz1 (And.intro hT1 (And.intro hx1 hy1))); clear hz1 hT1 hx1 hy1 hk1)
 refine leaves_cons (f := 75) (args := #[.pointer (some ⟨w.heap.size, 0, none⟩), .pointer (some ⟨w.heap.size + 1, 0, none⟩)]) (by simp) (by rfl) ?_
 refine CallsD.mono (catch_idle _ _ _) ?_
 rintro e u' w' ⟨rfl, rfl, rfl⟩
 have hset := blk_set HW.out.2.2.2 0 (.bool true)
 have hcell := blk_cell hset 0
 have h1 := HW.out.1
 rw [HF.out.2.1] at h1
 refine ⟨_, ?_, rfl, w1, HW.out.2.1, h1, rfl⟩
 have hcell' : (w1.setCell { block := w.heap.size + 1, off := 0 } (Value.bool true)).cell? { block := w.heap.size + 1, off := 0 } = some (.bool true) := hcell
 simp [results, Tryd.results43, go_sem, hcell']
theorem guard_bad (w0 w : World) (g : Nat) (s : ByteArray) (i j : Int) (f : Nat) (cap : Array Value) (T : World → Prop) (hI : IsS77 w0 w g s i false) (hs : ScanOk w f cap false T) (hT : ∀ W, T W → IsS77 w0 W g s j false) :
  Calls Tryd.prog 43 #[.pointer (some ⟨g, 0, none⟩), .func (.func f) #[] cap] w fun e w' => e = .returned (.bool false) ∧ ∃ W1, T W1 ∧ w.heap.size + 2 ≤ W1.heap.size ∧ w' = ((W1.setCell ⟨g, 2, none⟩ (.bool true)).setCell ⟨w.heap.size + 1, 0, none⟩ (.bool false)).alloc (.cells #[] 87) := by
 have hmf : ∀ (fn : Fn) (first cap : Array Value) (w : World), (Instr.makeFunc fn first cap).run Tryd.prog w = .ok (.func fn first cap) w := fun _ _ _ _ => rfl
 have hcf := hs.1
 have HS := Aside0.mk hs.2
 have hgc := cellS77_2 hI.1
 have lg := blk_lt hI.1
 have HI := Aside0.mk hI
 clear hs hI
 go_enter_defers Tryd.func43, Tryd.ntmps43
 have HBl : Below w.heap.size w ((w.alloc (.cells #[.pointer (some ⟨g, 0, none⟩)] 45)).alloc (.cells #[.bool false] 4)) := ((Below.refl _ w).alloc (Nat.le_refl _) _).alloc (Nat.le_of_lt (by rw [World.size_alloc]; exact Nat.lt_succ_self _)) _
 have hz2 : ((w.alloc (.cells #[.pointer (some ⟨g, 0, none⟩)] 45)).alloc (.cells #[.bool false] 4)).heap.size = w.heap.size + 2 := by simp
 have hx2 : ((w.alloc (.cells #[.pointer (some ⟨g, 0, none⟩)] 45)).alloc (.cells #[.bool false] 4)).heap[w.heap.size]? = some (.cells #[.pointer (some ⟨g, 0, none⟩)] 45 (0, 0)) := blk_alloc (blk_new w _) _
 have hk2 : ((w.alloc (.cells #[.pointer (some ⟨g, 0, none⟩)] 45)).alloc (.cells #[.bool false] 4)).heap[w.heap.size + 1]? = some (.cells #[.bool false] 4 (0, 0)) := by have h := blk_new (w.alloc (.cells #[.pointer (some ⟨g, 0, none⟩)] 45)) (.cells #[.bool false] 4); rw [World.size_alloc] at h; exact h
 have HF := Aside0.mk (And.intro HBl (And.intro hz2 (And.intro hx2 hk2)))
 clear HBl hz2 hx2 hk2
 go_wp2_with (refine Calls.mono (HS.out _ HF.out.1) ?_; rintro e w1 ⟨he, hz1, hk1, hT1⟩; simp only [Bool.false_eq_true, if_false] at he; subst he; have hx1 := (hk1 w.heap.size (Nat.le_refl _) (by rw [HF.out.2.1]; omega)).trans HF.out.2.2.1; have hy1 := (hk1 (w.heap.size + 1) (by omega) (by rw [HF.out.2.1]; omega)).trans HF.out.2.2.2; have HW := Aside0.mk (And.intro hz1 (And.intro hT1 (And.intro hx1 hy1))); clear hz1 hT1 hx1 hy1 hk1)
 refine leaves_cons (f := 75) (args := #[.pointer (some ⟨w.heap.size, 0, none⟩), .pointer (some ⟨w.heap.size + 1, 0, none⟩)]) (by simp) (by rfl) ?_
 have hI1 := hT w1 HW.out.2.1
 have hne : g ≠ w.heap.size + 1 := by omega
 refine CallsD.mono (catch_panic w0 w1 g _ _ s j false _ hI1 HW.out.2.2.1 HW.out.2.2.2 hne) ?_
 rintro e u' w' ⟨rfl, rfl, rfl⟩
 have hset := blk_alloc (blk_set (blk_far HW.out.2.2.2 (p := ⟨g, 2, none⟩) (fun e => hne e.symm) (.bool true)) 0 (.bool false)) (.cells #[] 87)
 have hcell := blk_cell hset 0
 have h1 := HW.out.1
 rw [HF.out.2.1] at h1
 refine ⟨_, ?_, rfl, w1, HW.out.2.1, h1, rfl⟩
 have hcell' : (((w1.setCell ⟨g, 2, none⟩ (.bool true)).setCell ⟨w.heap.size + 1, 0, none⟩ (.bool false)).alloc (.cells #[] 87)).cell? { block := w.heap.size + 1, off := 0 } = some (.bool false) := hcell
 simp [results, Tryd.results43, go_sem, hcell']
theorem guard_any (w0 w : World) (g : Nat) (s : ByteArray) (i j : Int) (f : Nat) (cap : Array Value) (ok : Bool) (T : World → Prop) (hI : IsS77 w0 w g s i false) (hB : Below w0.heap.size w0 w) (hs : ScanOk w f cap ok T) (hT : ∀ W, T W → IsS77 w0 W g s j false ∧ Below w0.heap.size w0 W) :
  Calls Tryd.prog 43 #[.pointer (some ⟨g, 0, none⟩), .func (.func f) #[] cap] w fun e w' => e = .returned (.bool ok) ∧ IsS77 w0 w' g s j (!ok) ∧ Below w0.heap.size w0 w' ∧ w.heap.size ≤ w'.heap.size ∧ ∃ W1, T W1 ∧ ∀ k, k < w.heap.size → k ≠ g → w'.heap[k]? = W1.heap[k]? := by
 have hlt := blk_lt hI.1
 cases ok with
 | true =>
  refine (guard_ok w0 w g s i j f cap T hI hs).mono ?_
  rintro e w' ⟨rfl, W1, hT1, hz, rfl⟩
  obtain ⟨hI1, hB1⟩ := hT W1 hT1
  refine ⟨rfl, hI1.far (by show g ≠ w.heap.size + 1; omega) _, below_set hB1 (by have := hB.size; omega), ?_, W1, hT1, ?_⟩
  ·rw [World.size_setCell]; omega
  ·intro k hk _
   exact Below.heap_setCell _ _ _ _ (by show k ≠ w.heap.size + 1; omega)
 | false =>
  refine (guard_bad w0 w g s i j f cap T hI hs (fun W h => (hT W h).1)).mono ?_
  rintro e w' ⟨rfl, W1, hT1, hz, rfl⟩
  obtain ⟨hI1, hB1⟩ := hT W1 hT1
  have h2 := (hI1.set_2 true).far (p := ⟨w.heap.size + 1, 0, none⟩) (by show g ≠ w.heap.size + 1; omega) (.bool false)
  have hBB := below_set (g := w.heap.size + 1) (j := 0) (v := .bool false) (below_set (g := g) (j := 2) (v := .bool true) hB1 hI.2) (by have := hB.size; omega)
  refine ⟨rfl, h2.alloc _, hBB.alloc hBB.size _, ?_, W1, hT1, ?_⟩
  ·rw [World.size_alloc, World.size_setCell, World.size_setCell]; omega
  ·intro k hk hg
   rw [Below.heap_alloc _ _ _ (by rw [World.size_setCell, World.size_setCell]; omega), Below.heap_setCell _ _ _ _ (by show k ≠ w.heap.size + 1; omega), Below.heap_setCell _ _ _ _ hg]
theorem guard_failed (w0 w : World) (g : Nat) (s : ByteArray) (i : Int) (f : Nat) (cap : Array Value) (hI : IsS77 w0 w g s i true) (hB : Below w0.heap.size w0 w) :
  Calls Tryd.prog 43 #[.pointer (some ⟨g, 0, none⟩), .func (.func f) #[] cap] w fun e w' => e = .returned (.bool false) ∧ IsS77 w0 w' g s i true ∧ Below w0.heap.size w0 w' ∧ Below w.heap.size w w' := by
 have hgc := cellS77_2 hI.1
 have lg := blk_lt hI.1
 have HI := Aside0.mk hI
 have HB := Aside0.mk hB
 clear hI hB
 go_enter_defers Tryd.func43, Tryd.ntmps43
 go_wp2_with fail
 have hk2 := blk_new (w.alloc (.cells #[.pointer (some ⟨g, 0, none⟩)] 45)) (.cells #[.bool false] 4)
 rw [World.size_alloc] at hk2
 have hcell : ((w.alloc (.cells #[.pointer (some ⟨g, 0, none⟩)] 45)).alloc (.cells #[.bool false] 4)).cell? ⟨w.heap.size + 1, 0, none⟩ = some (.bool false) := blk_cell hk2 0
 refine ⟨_, ?_, rfl, (HI.out.alloc _).alloc _, (HB.out.alloc HB.out.size _).alloc (by rw [World.size_alloc]; have := HB.out.size; omega) _, ((Below.refl _ w).alloc (Nat.le_refl _) _).alloc (Nat.le_of_lt (by rw [World.size_alloc]; exact Nat.lt_succ_self _)) _⟩
 simp [results, Tryd.results43, go_sem, hcell]
end Go.Proofs.YtlchefonlfokgaaDoor.Q
end
section
namespace Go.Proofs.YtlchefonlfokgaaDoor.Q
open Go.RowKit Go.Proofs.YtlchefonlfokgaaDoorW.PrintWords Go.Proofs.YtlchefonlfokgaaDoorW.PrintLast Go.Proofs.YtlchefonlfokgaaDoorW.PrintMore
set_option maxRecDepth 100000
def pLeading (c : Int) : Bool := decide (48 < c) && decide (c ≤ 57)
def pDigit (c : Int) : Bool := decide (48 ≤ c) && decide (c ≤ 57)
def pLetter (c : Int) : Bool := decide (97 ≤ c) && decide (c ≤ 122)
def pPart (c : Int) : Bool := pLetter c || pDigit c
def pIs (k c : Int) : Bool := c == k
theorem leading_calls (w : World) (c : Int) : Calls Tryd.prog 79 #[.int .u8 c] w fun e w' => e = .returned (.bool (pLeading c)) ∧ w' = w := by
 by_cases h1 : 48 < c
 ·by_cases h2 : c ≤ 57
  ·have hp : pLeading c = true := by simp [pLeading, h1, h2]
   rw [hp]
   go_enter Tryd.func79, Tryd.ntmps79
   go_wp2
   go_ret
   exact ⟨rfl, rfl⟩
  ·have hp : pLeading c = false := by simp [pLeading, h1, h2]
   rw [hp]
   go_enter Tryd.func79, Tryd.ntmps79
   go_wp2
   go_ret
   exact ⟨rfl, rfl⟩
 ·have hp : pLeading c = false := by simp [pLeading, h1]
  rw [hp]
  go_enter Tryd.func79, Tryd.ntmps79
  go_wp2
  go_ret
  exact ⟨rfl, rfl⟩
theorem leading_ok (w0 w : World) (g : Nat) (s : ByteArray) (i : Int) (bad : Bool) : PredOk w0 w g s i bad 79 #[] pLeading :=
 ⟨fun _ _ => rfl, fun W hK hI hB c _ _ => (leading_calls W c).mono (fun e W' ⟨he, hw⟩ => by subst hw; exact ⟨he, hI, hB, KeepBut.refl _ _ _⟩)⟩
theorem digit_calls (w : World) (c : Int) : Calls Tryd.prog 80 #[.int .u8 c] w fun e w' => e = .returned (.bool (pDigit c)) ∧ w' = w := by
 by_cases h1 : 48 ≤ c
 ·by_cases h2 : c ≤ 57
  ·have hp : pDigit c = true := by simp [pDigit, h1, h2]
   rw [hp]
   go_enter Tryd.func80, Tryd.ntmps80
   go_wp2
   go_ret
   exact ⟨rfl, rfl⟩
  ·have hp : pDigit c = false := by simp [pDigit, h1, h2]
   rw [hp]
   go_enter Tryd.func80, Tryd.ntmps80
   go_wp2
   go_ret
   exact ⟨rfl, rfl⟩
 ·have hp : pDigit c = false := by simp [pDigit, h1]
  rw [hp]
  go_enter Tryd.func80, Tryd.ntmps80
  go_wp2
  go_ret
  exact ⟨rfl, rfl⟩
theorem digit_ok (w0 w : World) (g : Nat) (s : ByteArray) (i : Int) (bad : Bool) : PredOk w0 w g s i bad 80 #[] pDigit :=
 ⟨fun _ _ => rfl, fun W hK hI hB c _ _ => (digit_calls W c).mono (fun e W' ⟨he, hw⟩ => by subst hw; exact ⟨he, hI, hB, KeepBut.refl _ _ _⟩)⟩
theorem letter_calls (w : World) (c : Int) : Calls Tryd.prog 90 #[.int .u8 c] w fun e w' => e = .returned (.bool (pLetter c)) ∧ w' = w := by
 by_cases h1 : 97 ≤ c
 ·by_cases h2 : c ≤ 122
  ·have hp : pLetter c = true := by simp [pLetter, h1, h2]
   rw [hp]
   go_enter Tryd.func90, Tryd.ntmps90
   go_wp2
   go_ret
   exact ⟨rfl, rfl⟩
  ·have hp : pLetter c = false := by simp [pLetter, h1, h2]
   rw [hp]
   go_enter Tryd.func90, Tryd.ntmps90
   go_wp2
   go_ret
   exact ⟨rfl, rfl⟩
 ·have hp : pLetter c = false := by simp [pLetter, h1]
  rw [hp]
  go_enter Tryd.func90, Tryd.ntmps90
  go_wp2
  go_ret
  exact ⟨rfl, rfl⟩
theorem letter_ok (w0 w : World) (g : Nat) (s : ByteArray) (i : Int) (bad : Bool) : PredOk w0 w g s i bad 90 #[] pLetter :=
 ⟨fun _ _ => rfl, fun W hK hI hB c _ _ => (letter_calls W c).mono (fun e W' ⟨he, hw⟩ => by subst hw; exact ⟨he, hI, hB, KeepBut.refl _ _ _⟩)⟩
theorem part_calls (w : World) (c : Int) : Calls Tryd.prog 91 #[.int .u8 c] w fun e w' => e = .returned (.bool (pPart c)) ∧ w' = w := by
 obtain ⟨b1, hb1⟩ : ∃ b, pLetter c = b := ⟨_, rfl⟩
 obtain ⟨b2, hb2⟩ : ∃ b, pDigit c = b := ⟨_, rfl⟩
 have hp : pPart c = (b1 || b2) := by rw [pPart, hb1, hb2]
 rw [hp]
 have H1 := Aside0.mk hb1
 have H2 := Aside0.mk hb2
 clear hp hb1 hb2
 cases b1 <;> cases b2 <;> (
  go_enter Tryd.func91, Tryd.ntmps91
  go_wp2_with (first | (go_at_call 90; refine (letter_calls _ c).mono ?_; rintro e w1 ⟨rfl, rfl⟩; rw [H1.out]) | (go_at_call 80; refine (digit_calls _ c).mono ?_; rintro e w1 ⟨rfl, rfl⟩; rw [H2.out]))
  go_ret
  exact ⟨rfl, rfl⟩)
theorem part_ok (w0 w : World) (g : Nat) (s : ByteArray) (i : Int) (bad : Bool) : PredOk w0 w g s i bad 91 #[] pPart :=
 ⟨fun _ _ => rfl, fun W hK hI hB c _ _ => (part_calls W c).mono (fun e W' ⟨he, hw⟩ => by subst hw; exact ⟨he, hI, hB, KeepBut.refl _ _ _⟩)⟩
theorem is1_calls (w : World) (b : Nat) (k c : Int) (hb : w.heap[b]? = some (.cells #[.int .u8 k] 5 (0, 0))) : Calls Tryd.prog 88 #[.int .u8 c, .pointer (some ⟨b, 0, none⟩)] w fun e w' => e = .returned (.bool (pIs k c)) ∧ w' = w := by
 have hc : w.cell? ⟨b, 0, none⟩ = some (.int .u8 k) := blk_cell hb 0
 go_enter Tryd.func88, Tryd.ntmps88
 go_wp2
 go_ret
 exact ⟨rfl, rfl⟩
theorem is_calls (w : World) (k : Int) : Calls Tryd.prog 78 #[.int .u8 k] w fun e w' => e = .returned (.func (.func 88) #[] #[.pointer (some ⟨w.heap.size, 0, none⟩)]) ∧ w' = w.alloc (.cells #[.int .u8 k] 5) := by
 have hmf : ∀ (fn : Fn) (first cap : Array Value) (w : World), (Instr.makeFunc fn first cap).run Tryd.prog w = .ok (.func fn first cap) w := fun _ _ _ _ => rfl
 go_enter Tryd.func78, Tryd.ntmps78
 go_wp2
 go_ret
 exact ⟨rfl, rfl⟩
theorem is_ok (w0 w : World) (g : Nat) (s : ByteArray) (i : Int) (bad : Bool) (b : Nat) (k : Int) (hb : w.heap[b]? = some (.cells #[.int .u8 k] 5 (0, 0))) (hg : b ≠ g) : PredOk w0 w g s i bad 88 #[.pointer (some ⟨b, 0, none⟩)] (pIs k) :=
 ⟨fun _ _ => rfl, fun W hK hI hB c _ _ => (is1_calls W b k c (hK.blk hb hg (by simp))).mono (fun e W' ⟨he, hw⟩ => by subst hw; exact ⟨he, hI, hB, KeepBut.refl _ _ _⟩)⟩
end Go.Proofs.YtlchefonlfokgaaDoor.Q
end
