/- What is proved: contracts of the scanner's inner methods (take, must, guard) and of the scans that are handed to guard. -/
import Derived.Test.YtkpicinbckedoaaQx7
import Derived.Defers
import Derived.Recover
import Derived.WalkLawsBesides
namespace Go.Proofs.Ytkpicinbckedoaa.Q
open Go.RowKit Go.Proofs.YtkpicinbckedoaaW.PrintWords Go.Proofs.YtkpicinbckedoaaW.PrintLast Go.Proofs.YtkpicinbckedoaaW.PrintMore
set_option linter.unusedVariables false
set_option linter.unusedSimpArgs false

/-- A function value that is a condition on a byte: called while the scanner stands at 'i', it tells p and turns nothing that the caller sees. -/
def PredOk (w0 w : World) (g : Nat) (s : ByteArray) (i : Int) (bad : Bool) (f : Nat) (cap : Array Value) (p : Int → Bool) : Prop :=
  (∀ (args : Array Value) (W : World), (callFunc f args).run Try.prog W = .ok (.enter f args) W) ∧ ∀ W, KeepBut w W g none → IsS72 w0 W g s i bad → Below w0.heap.size w0 W → ∀ c : Int, 0 ≤ c → c ≤ 255 →
    Calls Try.prog f (#[.int .u8 c] ++ cap) W fun e W' => e = .returned (.bool (p c)) ∧ IsS72 w0 W' g s i bad ∧ Below w0.heap.size w0 W' ∧ KeepBut W W' g none

/-- Is there a next byte, and does it satisfy p? -/
def scTake (s : ByteArray) (i : Nat) (p : Int → Bool) : Bool := decide (i < s.size) && p (bt s i)

theorem next_some (s : ByteArray) (i : Nat) (bad : Bool) (h : i < s.size) : linescan_Scanner_next.f s (i : Int) bad = some (bt s i, true, s, (i : Int), bad) := by
  unfold linescan_Scanner_next.f
  rw [if_neg (by omega), if_pos (by omega), if_pos (by omega)]
theorem next_none (s : ByteArray) (i : Nat) (bad : Bool) (h : ¬ i < s.size) : linescan_Scanner_next.f s (i : Int) bad = some (0, false, s, (i : Int), bad) := by
  unfold linescan_Scanner_next.f
  rw [if_pos (by omega)]

set_option maxHeartbeats 4000000 in
set_option maxRecDepth 100000 in
theorem take_any (w0 w : World) (g : Nat) (s : ByteArray) (i : Nat) (bad : Bool) (f : Nat) (cap : Array Value) (p : Int → Bool) (hI : IsS72 w0 w g s (i : Int) bad) (hB : Below w0.heap.size w0 w) (hs : s.size ≤ 4611686018427387904)
    (hp : PredOk w0 w g s (i : Int) bad f cap p) :
    Calls Try.prog 44 #[.pointer (some ⟨g, 0, none⟩), .func (.func f) #[] cap] w fun e w' => e = .returned (.bool (scTake s i p)) ∧ IsS72 w0 w' g s (if scTake s i p then ((i + 1 : Nat) : Int) else (i : Int)) bad ∧ Below w0.heap.size w0 w' ∧ KeepBut w w' g none := by
  have HP := Aside0.mk hp.2
  have hcf := hp.1
  have HI := Aside0.mk hI
  have HB := Aside0.mk hB
  clear hp hI hB
  by_cases h : i < s.size
  · have hn := Aside0.mk (next_some s i bad h)
    have hb0 := bt_range s i
    have hst : scTake s i p = p (bt s i) := by simp [scTake, h]
    rw [hst]
    clear hst
    obtain ⟨b, hb⟩ : ∃ b, p (bt s i) = b := ⟨_, rfl⟩
    rw [hb]
    have HPB := Aside0.mk hb
    clear hb
    cases b with
    | false =>
      go_enter Try.func44, Try.ntmps44
      go_wp2_with (first | (go_at_call 53; refine (linescan_Scanner_next.calls g s (i : Int) bad _ _ _ _ _ w0 _ HI.out HB.out hn.out).mono ?_; rintro e w1 ⟨rfl, hI1, hB1, hK1⟩; have n0_ := Aside0.mk hI1; have n1_ := Aside0.mk hB1; have n2_ := Aside0.mk hK1; clear HI HB hI1 hB1 hK1; have HI := n0_; have HB := n1_; have HK := n2_; clear n0_ n1_ n2_) | (refine (HP.out _ HK.out HI.out HB.out _ hb0.1 hb0.2).mono ?_; rintro e w2 ⟨rfl, hI1, hB1, hK1⟩; rw [HPB.out]; have n0_ := Aside0.mk hI1; have n1_ := Aside0.mk hB1; have n2_ := Aside0.mk (KeepBut.trans HK.out hK1 (.inl rfl)); clear HI HB HK hI1 hB1 hK1; have HI := n0_; have HB := n1_; have HK := n2_; clear n0_ n1_ n2_))
      go_ret
      exact ⟨rfl, HI.out, HB.out, HK.out⟩
    | true =>
      go_enter Try.func44, Try.ntmps44
      go_wp2_with (first | (go_at_call 53; refine (linescan_Scanner_next.calls g s (i : Int) bad _ _ _ _ _ w0 _ HI.out HB.out hn.out).mono ?_; rintro e w1 ⟨rfl, hI1, hB1, hK1⟩; have n0_ := Aside0.mk hI1; have n1_ := Aside0.mk hB1; have n2_ := Aside0.mk hK1; clear HI HB hI1 hB1 hK1; have HI := n0_; have HB := n1_; have HK := n2_; clear n0_ n1_ n2_) | (refine (HP.out _ HK.out HI.out HB.out _ hb0.1 hb0.2).mono ?_; rintro e w2 ⟨rfl, hI1, hB1, hK1⟩; rw [HPB.out]; have n0_ := Aside0.mk hI1; have n1_ := Aside0.mk hB1; have n2_ := Aside0.mk (KeepBut.trans HK.out hK1 (.inl rfl)); clear HI HB HK hI1 hB1 hK1; have HI := n0_; have HB := n1_; have HK := n2_; clear n0_ n1_ n2_; have hcl := cellS72_1 HI.out.1; have hfz := blk_frozen HI.out.1 1))
      go_ret
      exact ⟨rfl, HI.out.set_1 ((i + 1 : Nat) : Int), below_set HB.out HI.out.2, HK.out.set_ 1 _⟩
  · have hn := Aside0.mk (next_none s i bad h)
    have hst : scTake s i p = false := by simp [scTake, h]
    rw [hst]
    clear hst
    go_enter Try.func44, Try.ntmps44
    go_wp2_with (first | (go_at_call 53; refine (linescan_Scanner_next.calls g s (i : Int) bad _ _ _ _ _ w0 _ HI.out HB.out hn.out).mono ?_; rintro e w1 ⟨rfl, hI1, hB1, hK1⟩; have n0_ := Aside0.mk hI1; have n1_ := Aside0.mk hB1; have n2_ := Aside0.mk hK1; clear HI HB hI1 hB1 hK1; have HI := n0_; have HB := n1_; have HK := n2_; clear n0_ n1_ n2_))
    go_ret
    exact ⟨rfl, HI.out, HB.out, HK.out⟩

def scFail : List PanicEntry := [{ v := .iface 84 (.agg #[]), recovered := false }]

set_option maxHeartbeats 4000000 in
set_option maxRecDepth 100000 in
theorem must_yes (w0 w : World) (g : Nat) (s : ByteArray) (i : Nat) (bad : Bool) (f : Nat) (cap : Array Value) (p : Int → Bool) (hI : IsS72 w0 w g s (i : Int) bad) (hB : Below w0.heap.size w0 w) (hs : s.size ≤ 4611686018427387904)
    (hp : PredOk w0 w g s (i : Int) bad f cap p) (ht : scTake s i p = true) :
    Calls Try.prog 39 #[.pointer (some ⟨g, 0, none⟩), .func (.func f) #[] cap] w fun e w' => e = .returned (.tuple #[]) ∧ IsS72 w0 w' g s ((i + 1 : Nat) : Int) bad ∧ Below w0.heap.size w0 w' ∧ KeepBut w w' g none := by
  have HT := Aside0.mk (take_any w0 w g s i bad f cap p hI hB hs hp)
  rw [ht] at HT
  clear hI hB hp ht
  go_enter Try.func39, Try.ntmps39
  go_wp2_with (first | (go_at_call 44; refine HT.out.mono ?_; rintro e w1 ⟨rfl, hI1, hB1, hK1⟩; have n0_ := Aside0.mk hI1; have n1_ := Aside0.mk hB1; have n2_ := Aside0.mk hK1; clear HT hI1 hB1 hK1; have HI := n0_; have HB := n1_; have HK := n2_; clear n0_ n1_ n2_))
  go_end0
  exact ⟨rfl, HI.out, HB.out, HK.out⟩

set_option maxHeartbeats 4000000 in
set_option maxRecDepth 100000 in
theorem must_no (w0 w : World) (g : Nat) (s : ByteArray) (i : Nat) (bad : Bool) (f : Nat) (cap : Array Value) (p : Int → Bool) (hI : IsS72 w0 w g s (i : Int) bad) (hB : Below w0.heap.size w0 w) (hs : s.size ≤ 4611686018427387904)
    (hp : PredOk w0 w g s (i : Int) bad f cap p) (ht : scTake s i p = false) :
    Calls Try.prog 39 #[.pointer (some ⟨g, 0, none⟩), .func (.func f) #[] cap] w fun e w' => e = .panicked scFail ∧ IsS72 w0 w' g s (i : Int) bad ∧ Below w0.heap.size w0 w' ∧ KeepBut w w' g none := by
  have HT := Aside0.mk (take_any w0 w g s i bad f cap p hI hB hs hp)
  rw [ht] at HT
  have hu := Try.underlying84
  clear hI hB hp ht
  go_enter Try.func39, Try.ntmps39
  go_wp2_with (first | (go_at_call 44; refine HT.out.mono ?_; rintro e w1 ⟨rfl, hI1, hB1, hK1⟩; have n0_ := Aside0.mk hI1; have n1_ := Aside0.mk hB1; have n2_ := Aside0.mk hK1; clear HT hI1 hB1 hK1; have HI := n0_; have HB := n1_; have HK := n2_; clear n0_ n1_ n2_))
  exact ⟨rfl, rfl, HI.out, HB.out, HK.out⟩

/-! ### guard: the deferred closure -/
set_option maxHeartbeats 4000000 in
set_option maxRecDepth 100000 in
theorem catch_panic (w0 W : World) (g bx bok : Nat) (s : ByteArray) (i : Int) (bad b0 : Bool) (hI : IsS72 w0 W g s i bad) (hx : W.heap[bx]? = some (.cells #[.pointer (some ⟨g, 0, none⟩)] 41 (0, 0))) (hk : W.heap[bok]? = some (.cells #[.bool b0] 4 (0, 0))) (hne : g ≠ bok) :
    CallsD Try.prog 60 #[.pointer (some ⟨bx, 0, none⟩), .pointer (some ⟨bok, 0, none⟩)] (.panicking scFail) W fun e u' w' =>
      e = .returned (.tuple #[]) ∧ u' = .panicking [{ v := .iface 84 (.agg #[]), recovered := true }] ∧ w' = ((W.setCell ⟨g, 2, none⟩ (.bool true)).setCell ⟨bok, 0, none⟩ (.bool false)).alloc (.cells #[] 84) := by
  have hxc : W.cell? ⟨bx, 0, none⟩ = some (.pointer (some ⟨g, 0, none⟩)) := blk_cell hx 0
  have hkc : W.cell? ⟨bok, 0, none⟩ = some (.bool b0) := blk_cell hk 0
  have hkf := blk_frozen hk 0
  have hgc := cellS72_2 hI.1
  have hgf := blk_frozen hI.1 2
  have hne2 : ¬ bok = g := fun e => hne e.symm
  have hta : ∀ (v : Value) (W : World), (Instr.typeAssert (.iface 84 v) 20 84 true).run Try.prog W = .ok (.tuple #[v, .bool true]) W := fun v W => by rfl
  have lg := blk_lt hI.1
  have lk := blk_lt hk
  have lx := blk_lt hx
  have hu89 := Try.underlying84
  refine callsD_of_wpS Try.func60 rfl fun c₀ cs hu => ?_
  apply wpS_seq
  apply wpS_region
  simp [wpOpsS, go_sem, recoverD, hu, scFail, Try.ntmps60, Exit.thenS]
  apply wpS_seq
  apply wpS_region
  simp [wpOpsS, go_sem, Exit.thenS]
  refine wpS_cond (t := true) (by simp [Act.eval]) ?_
  simp only [if_true]
  apply wpS_seq
  apply wpS_seq
  apply wpS_region
  simp [wpOpsS, go_sem, Exit.thenS, hta]
  apply wpS_seq
  apply wpS_region
  simp [wpOpsS, go_sem, Exit.thenS]
  refine wpS_cond (t := false) (by simp [Act.eval]) ?_
  simp only [Bool.false_eq_true, if_false]
  refine wpS_of_wp (wp_skip ?_)
  simp only [Exit.thenS]
  apply wpS_region
  simp [wpOpsS, go_sem, Exit.thenS, hxc, hgc, hgf, hkc, hkf, lg, lk, lx]
  simp [bodyPostS, results, Try.results60]

set_option maxHeartbeats 4000000 in
set_option maxRecDepth 100000 in
theorem catch_idle (W : World) (bx bok : Nat) :
    CallsD Try.prog 60 #[.pointer (some ⟨bx, 0, none⟩), .pointer (some ⟨bok, 0, none⟩)] .returning W fun e u' w' =>
      e = .returned (.tuple #[]) ∧ u' = .returning ∧ w' = W := by
  refine callsD_of_wpS Try.func60 rfl fun c₀ cs hu => ?_
  apply wpS_seq
  apply wpS_region
  simp [wpOpsS, go_sem, recoverD, hu, Try.ntmps60, Exit.thenS]
  apply wpS_seq
  apply wpS_region
  simp [wpOpsS, go_sem, Exit.thenS]
  refine wpS_cond (t := false) (by simp [Act.eval]) ?_
  simp only [Bool.false_eq_true, if_false]
  refine wpS_of_wp (wp_skip ?_)
  cases c₀
  simp_all [bodyPostS, results, Try.results60]

/-- A scan that is handed to guard: called in a world that holds what w held (guard's own two blocks are new), it returns or fails, and turns nothing that is new to guard; what it tells beside is T. -/
def ScanOk (w : World) (f : Nat) (cap : Array Value) (ok : Bool) (T : World → Prop) : Prop :=
  (∀ (args : Array Value) (W : World), (callFunc f args).run Try.prog W = .ok (.enter f args) W) ∧ ∀ W, Below w.heap.size w W →
    Calls Try.prog f cap W fun e W' => e = (if ok then .returned (.tuple #[]) else .panicked scFail) ∧ W.heap.size ≤ W'.heap.size ∧ (∀ k, w.heap.size ≤ k → k < W.heap.size → W'.heap[k]? = W.heap[k]?) ∧ T W'

set_option maxHeartbeats 4000000 in
set_option maxRecDepth 100000 in
theorem guard_ok (w0 w : World) (g : Nat) (s : ByteArray) (i j : Int) (f : Nat) (cap : Array Value) (T : World → Prop) (hI : IsS72 w0 w g s i false) (hs : ScanOk w f cap true T) :
    Calls Try.prog 37 #[.pointer (some ⟨g, 0, none⟩), .func (.func f) #[] cap] w fun e w' => e = .returned (.bool true) ∧ ∃ W1, T W1 ∧ w.heap.size + 2 ≤ W1.heap.size ∧ w' = W1.setCell ⟨w.heap.size + 1, 0, none⟩ (.bool true) := by
  have hmf : ∀ (fn : Fn) (first cap : Array Value) (w : World), (Instr.makeFunc fn first cap).run Try.prog w = .ok (.func fn first cap) w := fun _ _ _ _ => rfl
  have hcf := hs.1
  have HS := Aside0.mk hs.2
  have hgc := cellS72_2 hI.1
  have lg := blk_lt hI.1
  have HI := Aside0.mk hI
  clear hs hI
  go_enter_defers Try.func37, Try.ntmps37
  have HBl : Below w.heap.size w ((w.alloc (.cells #[.pointer (some ⟨g, 0, none⟩)] 41)).alloc (.cells #[.bool false] 4)) := ((Below.refl _ w).alloc (Nat.le_refl _) _).alloc (Nat.le_of_lt (by rw [World.size_alloc]; exact Nat.lt_succ_self _)) _
  have hz2 : ((w.alloc (.cells #[.pointer (some ⟨g, 0, none⟩)] 41)).alloc (.cells #[.bool false] 4)).heap.size = w.heap.size + 2 := by simp
  have hx2 : ((w.alloc (.cells #[.pointer (some ⟨g, 0, none⟩)] 41)).alloc (.cells #[.bool false] 4)).heap[w.heap.size]? = some (.cells #[.pointer (some ⟨g, 0, none⟩)] 41 (0, 0)) := blk_alloc (blk_new w _) _
  have hk2 : ((w.alloc (.cells #[.pointer (some ⟨g, 0, none⟩)] 41)).alloc (.cells #[.bool false] 4)).heap[w.heap.size + 1]? = some (.cells #[.bool false] 4 (0, 0)) := by have h := blk_new (w.alloc (.cells #[.pointer (some ⟨g, 0, none⟩)] 41)) (.cells #[.bool false] 4); rw [World.size_alloc] at h; exact h
  have HF := Aside0.mk (And.intro HBl (And.intro hz2 (And.intro hx2 hk2)))
  clear HBl hz2 hx2 hk2
  go_wp2_with (refine Calls.mono (HS.out _ HF.out.1) ?_; rintro e w1 ⟨he, hz1, hk1, hT1⟩; simp only [if_true] at he; subst he; have hx1 := (hk1 w.heap.size (Nat.le_refl _) (by rw [HF.out.2.1]; omega)).trans HF.out.2.2.1; have hy1 := (hk1 (w.heap.size + 1) (by omega) (by rw [HF.out.2.1]; omega)).trans HF.out.2.2.2; have hkc := blk_cell hy1 0; have hkf := blk_frozen hy1 0; have HW := Aside0.mk (And.intro hz1 (And.intro hT1 (And.intro hx1 hy1))); clear hz1 hT1 hx1 hy1 hk1)
  refine leaves_cons (f := 60) (args := #[.pointer (some ⟨w.heap.size, 0, none⟩), .pointer (some ⟨w.heap.size + 1, 0, none⟩)]) (by simp) (by rfl) ?_
  refine CallsD.mono (catch_idle _ _ _) ?_
  rintro e u' w' ⟨rfl, rfl, rfl⟩
  have hset := blk_set HW.out.2.2.2 0 (.bool true)
  have hcell := blk_cell hset 0
  have h1 := HW.out.1
  rw [HF.out.2.1] at h1
  refine ⟨_, ?_, rfl, w1, HW.out.2.1, h1, rfl⟩
  have hcell' : (w1.setCell { block := w.heap.size + 1, off := 0 } (Value.bool true)).cell? { block := w.heap.size + 1, off := 0 } = some (.bool true) := hcell
  simp [results, Try.results37, go_sem, hcell']

set_option maxHeartbeats 4000000 in
set_option maxRecDepth 100000 in
theorem guard_bad (w0 w : World) (g : Nat) (s : ByteArray) (i j : Int) (f : Nat) (cap : Array Value) (T : World → Prop) (hI : IsS72 w0 w g s i false) (hs : ScanOk w f cap false T) (hT : ∀ W, T W → IsS72 w0 W g s j false) :
    Calls Try.prog 37 #[.pointer (some ⟨g, 0, none⟩), .func (.func f) #[] cap] w fun e w' => e = .returned (.bool false) ∧ ∃ W1, T W1 ∧ w.heap.size + 2 ≤ W1.heap.size ∧ w' = ((W1.setCell ⟨g, 2, none⟩ (.bool true)).setCell ⟨w.heap.size + 1, 0, none⟩ (.bool false)).alloc (.cells #[] 84) := by
  have hmf : ∀ (fn : Fn) (first cap : Array Value) (w : World), (Instr.makeFunc fn first cap).run Try.prog w = .ok (.func fn first cap) w := fun _ _ _ _ => rfl
  have hcf := hs.1
  have HS := Aside0.mk hs.2
  have hgc := cellS72_2 hI.1
  have lg := blk_lt hI.1
  have HI := Aside0.mk hI
  clear hs hI
  go_enter_defers Try.func37, Try.ntmps37
  have HBl : Below w.heap.size w ((w.alloc (.cells #[.pointer (some ⟨g, 0, none⟩)] 41)).alloc (.cells #[.bool false] 4)) := ((Below.refl _ w).alloc (Nat.le_refl _) _).alloc (Nat.le_of_lt (by rw [World.size_alloc]; exact Nat.lt_succ_self _)) _
  have hz2 : ((w.alloc (.cells #[.pointer (some ⟨g, 0, none⟩)] 41)).alloc (.cells #[.bool false] 4)).heap.size = w.heap.size + 2 := by simp
  have hx2 : ((w.alloc (.cells #[.pointer (some ⟨g, 0, none⟩)] 41)).alloc (.cells #[.bool false] 4)).heap[w.heap.size]? = some (.cells #[.pointer (some ⟨g, 0, none⟩)] 41 (0, 0)) := blk_alloc (blk_new w _) _
  have hk2 : ((w.alloc (.cells #[.pointer (some ⟨g, 0, none⟩)] 41)).alloc (.cells #[.bool false] 4)).heap[w.heap.size + 1]? = some (.cells #[.bool false] 4 (0, 0)) := by have h := blk_new (w.alloc (.cells #[.pointer (some ⟨g, 0, none⟩)] 41)) (.cells #[.bool false] 4); rw [World.size_alloc] at h; exact h
  have HF := Aside0.mk (And.intro HBl (And.intro hz2 (And.intro hx2 hk2)))
  clear HBl hz2 hx2 hk2
  go_wp2_with (refine Calls.mono (HS.out _ HF.out.1) ?_; rintro e w1 ⟨he, hz1, hk1, hT1⟩; simp only [Bool.false_eq_true, if_false] at he; subst he; have hx1 := (hk1 w.heap.size (Nat.le_refl _) (by rw [HF.out.2.1]; omega)).trans HF.out.2.2.1; have hy1 := (hk1 (w.heap.size + 1) (by omega) (by rw [HF.out.2.1]; omega)).trans HF.out.2.2.2; have HW := Aside0.mk (And.intro hz1 (And.intro hT1 (And.intro hx1 hy1))); clear hz1 hT1 hx1 hy1 hk1)
  refine leaves_cons (f := 60) (args := #[.pointer (some ⟨w.heap.size, 0, none⟩), .pointer (some ⟨w.heap.size + 1, 0, none⟩)]) (by simp) (by rfl) ?_
  have hI1 := hT w1 HW.out.2.1
  have hne : g ≠ w.heap.size + 1 := by omega
  refine CallsD.mono (catch_panic w0 w1 g _ _ s j false _ hI1 HW.out.2.2.1 HW.out.2.2.2 hne) ?_
  rintro e u' w' ⟨rfl, rfl, rfl⟩
  have hset := blk_alloc (blk_set (blk_far HW.out.2.2.2 (p := ⟨g, 2, none⟩) (fun e => hne e.symm) (.bool true)) 0 (.bool false)) (.cells #[] 84)
  have hcell := blk_cell hset 0
  have h1 := HW.out.1
  rw [HF.out.2.1] at h1
  refine ⟨_, ?_, rfl, w1, HW.out.2.1, h1, rfl⟩
  have hcell' : (((w1.setCell ⟨g, 2, none⟩ (.bool true)).setCell ⟨w.heap.size + 1, 0, none⟩ (.bool false)).alloc (.cells #[] 84)).cell? { block := w.heap.size + 1, off := 0 } = some (.bool false) := hcell
  simp [results, Try.results37, go_sem, hcell']

/-- What guard tells of a scan. -/
theorem guard_any (w0 w : World) (g : Nat) (s : ByteArray) (i j : Int) (f : Nat) (cap : Array Value) (ok : Bool) (T : World → Prop) (hI : IsS72 w0 w g s i false) (hB : Below w0.heap.size w0 w) (hs : ScanOk w f cap ok T) (hT : ∀ W, T W → IsS72 w0 W g s j false ∧ Below w0.heap.size w0 W) :
    Calls Try.prog 37 #[.pointer (some ⟨g, 0, none⟩), .func (.func f) #[] cap] w fun e w' => e = .returned (.bool ok) ∧ IsS72 w0 w' g s j (!ok) ∧ Below w0.heap.size w0 w' ∧ w.heap.size ≤ w'.heap.size ∧ ∃ W1, T W1 ∧ ∀ k, k < w.heap.size → k ≠ g → w'.heap[k]? = W1.heap[k]? := by
  have hlt := blk_lt hI.1
  cases ok with
  | true =>
    refine (guard_ok w0 w g s i j f cap T hI hs).mono ?_
    rintro e w' ⟨rfl, W1, hT1, hz, rfl⟩
    obtain ⟨hI1, hB1⟩ := hT W1 hT1
    refine ⟨rfl, hI1.far (by show g ≠ w.heap.size + 1; omega) _, below_set hB1 (by have := hB.size; omega), ?_, W1, hT1, ?_⟩
    · rw [World.size_setCell]; omega
    · intro k hk _
      exact Below.heap_setCell _ _ _ _ (by show k ≠ w.heap.size + 1; omega)
  | false =>
    refine (guard_bad w0 w g s i j f cap T hI hs (fun W h => (hT W h).1)).mono ?_
    rintro e w' ⟨rfl, W1, hT1, hz, rfl⟩
    obtain ⟨hI1, hB1⟩ := hT W1 hT1
    have h2 := (hI1.set_2 true).far (p := ⟨w.heap.size + 1, 0, none⟩) (by show g ≠ w.heap.size + 1; omega) (.bool false)
    have hBB := below_set (g := w.heap.size + 1) (j := 0) (v := .bool false) (below_set (g := g) (j := 2) (v := .bool true) hB1 hI.2) (by have := hB.size; omega)
    refine ⟨rfl, h2.alloc _, hBB.alloc hBB.size _, ?_, W1, hT1, ?_⟩
    · rw [World.size_alloc, World.size_setCell, World.size_setCell]; omega
    · intro k hk hg
      rw [Below.heap_alloc _ _ _ (by rw [World.size_setCell, World.size_setCell]; omega), Below.heap_setCell _ _ _ _ (by show k ≠ w.heap.size + 1; omega), Below.heap_setCell _ _ _ _ hg]

set_option maxHeartbeats 4000000 in
set_option maxRecDepth 100000 in
theorem guard_failed (w0 w : World) (g : Nat) (s : ByteArray) (i : Int) (f : Nat) (cap : Array Value) (hI : IsS72 w0 w g s i true) (hB : Below w0.heap.size w0 w) :
    Calls Try.prog 37 #[.pointer (some ⟨g, 0, none⟩), .func (.func f) #[] cap] w fun e w' => e = .returned (.bool false) ∧ IsS72 w0 w' g s i true ∧ Below w0.heap.size w0 w' ∧ Below w.heap.size w w' := by
  have hgc := cellS72_2 hI.1
  have lg := blk_lt hI.1
  have HI := Aside0.mk hI
  have HB := Aside0.mk hB
  clear hI hB
  go_enter_defers Try.func37, Try.ntmps37
  go_wp2_with fail
  have hk2 := blk_new (w.alloc (.cells #[.pointer (some ⟨g, 0, none⟩)] 41)) (.cells #[.bool false] 4)
  rw [World.size_alloc] at hk2
  have hcell : ((w.alloc (.cells #[.pointer (some ⟨g, 0, none⟩)] 41)).alloc (.cells #[.bool false] 4)).cell? ⟨w.heap.size + 1, 0, none⟩ = some (.bool false) := blk_cell hk2 0
  refine ⟨_, ?_, rfl, (HI.out.alloc _).alloc _, (HB.out.alloc HB.out.size _).alloc (by rw [World.size_alloc]; have := HB.out.size; omega) _, ((Below.refl _ w).alloc (Nat.le_refl _) _).alloc (Nat.le_of_lt (by rw [World.size_alloc]; exact Nat.lt_succ_self _)) _⟩
  simp [results, Try.results37, go_sem, hcell]

set_option maxHeartbeats 4000000 in
set_option maxRecDepth 100000 in
theorem guard_nil (w : World) (f : Nat) (cap : Array Value) :
    Calls Try.prog 37 #[.pointer none, .func (.func f) #[] cap] w fun e w' => e = .returned (.bool false) ∧ Below w.heap.size w w' := by
  go_enter_defers Try.func37, Try.ntmps37
  go_wp2_with fail
  have hk2 := blk_new (w.alloc (.cells #[.pointer none] 41)) (.cells #[.bool false] 4)
  rw [World.size_alloc] at hk2
  have hcell : ((w.alloc (.cells #[.pointer none] 41)).alloc (.cells #[.bool false] 4)).cell? ⟨w.heap.size + 1, 0, none⟩ = some (.bool false) := blk_cell hk2 0
  refine ⟨_, ?_, rfl, ((Below.refl _ w).alloc (Nat.le_refl _) _).alloc (Nat.le_of_lt (by rw [World.size_alloc]; exact Nat.lt_succ_self _)) _⟩
  simp [results, Try.results37, go_sem, hcell]
end Go.Proofs.Ytkpicinbckedoaa.Q
