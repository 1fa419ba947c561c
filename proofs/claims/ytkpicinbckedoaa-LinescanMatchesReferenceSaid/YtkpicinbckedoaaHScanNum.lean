/- What is proved: contracts of the scanner's Number. -/
import Derived.Test.YtkpicinbckedoaaHScanN
namespace Go.Proofs.Ytkpicinbckedoaa.Q
open Go.RowKit Go.Proofs.YtkpicinbckedoaaW.PrintWords Go.Proofs.YtkpicinbckedoaaW.PrintLast Go.Proofs.YtkpicinbckedoaaW.PrintMore
set_option linter.unusedVariables false
set_option linter.unusedSimpArgs false

/-- guard with a scan that has two captured variables (x, and one that it writes). -/
theorem guard_sc {w0 w2 : World} {g bx bn : Nat} {s : ByteArray} {i : Int} {j : Int} {f : Nat} {cap : Array Value} {ok : Bool} {v0 v1 : Value} (h : SC w0 w2 w2 w2 g bx bn s i v0) (hx : bx < w2.heap.size)
    (hcf : ∀ (args : Array Value) (W : World), (callFunc f args).run Try.prog W = .ok (.enter f args) W)
    (hscan : ∀ W, Below w2.heap.size w2 W → SC w0 w2 W W g bx bn s i v0 → Calls Try.prog f cap W fun e W' => e = (if ok then .returned (.tuple #[]) else .panicked scFail) ∧ SC w0 w2 W W' g bx bn s j v1) :
    Calls Try.prog 37 #[.pointer (some ⟨g, 0, none⟩), .func (.func f) #[] cap] w2 fun e w' => e = .returned (.bool ok) ∧ IsS72 w0 w' g s j (!ok) ∧ Below w0.heap.size w0 w' ∧ w2.heap.size ≤ w'.heap.size ∧ w'.heap[bn]? = some (.cells #[v1] 3 (0, 0)) ∧ w'.heap[bx]? = some (.cells #[.pointer (some ⟨g, 0, none⟩)] 41 (0, 0)) ∧ ∀ k, k < w2.heap.size → k ≠ g → k ≠ bn → w'.heap[k]? = w2.heap[k]? := by
  refine (guard_any w0 w2 g s i j f cap ok (fun W' => ∃ Ws, Below w2.heap.size w2 Ws ∧ SC w0 w2 Ws W' g bx bn s j v1) h.I h.B ⟨hcf, fun W hW => ?_⟩ (fun W ⟨Ws, _, hS⟩ => ⟨hS.I, hS.B⟩)).mono ?_
  · have hk : ∀ {q : Nat} {o : Obj}, w2.heap[q]? = some o → W.heap[q]? = some o := fun hq => (hW.block _ (blk_lt hq)).trans hq
    have h1 : SC w0 w2 W W g bx bn s i v0 := ⟨⟨hk h.I.1, h.I.2⟩, below_weaken h.B h.B.size hW, hk h.X, hk h.N, ⟨Nat.le_refl _, fun _ _ _ _ => rfl⟩, h.A⟩
    refine (hscan W hW h1).mono ?_
    rintro e W' ⟨he, hS⟩
    exact ⟨he, hS.K.1, fun k h2 h3 => hS.K.2 k h3 (by have := h.A; omega) (by have := h.A; omega), W, hW, hS⟩
  · rintro e w' ⟨he, hI, hB, hz, W1, ⟨Ws, hW, hS⟩, hk⟩
    refine ⟨he, hI, hB, hz, (hk bn h.A.2.2.2.2.2 h.A.2.1).trans hS.N, (hk bx hx h.A.1).trans hS.X, fun k h1 h2 h3 => ?_⟩
    rw [hk k h1 h2, hS.K.2 k (Nat.lt_of_lt_of_le h1 hW.size) h2 h3, hW.block k h1]

set_option maxHeartbeats 4000000 in
set_option maxRecDepth 100000 in
theorem number_ok (w0 w : World) (g : Nat) (s : ByteArray) (i : Nat) (hI : IsS72 w0 w g s (i : Int) false) (hB : Below w0.heap.size w0 w) (hs : s.size ≤ 4611686018427387904) :
    Calls Try.prog 17 #[.pointer (some ⟨g, 0, none⟩)] w fun e w' => e = .returned (.int .i64 (if (scNum s i).1 then (scNum s i).2.2 else 0)) ∧ IsS72 w0 w' g s ((scNum s i).2.1 : Int) (!(scNum s i).1) ∧ Below w0.heap.size w0 w' ∧ KeepBut w w' g none := by
  have hmf : ∀ (fn : Fn) (first cap : Array Value) (w : World), (Instr.makeFunc fn first cap).run Try.prog w = .ok (.func fn first cap) w := fun _ _ _ _ => rfl
  obtain ⟨w2, hw2⟩ : ∃ w2, w2 = (w.alloc (.cells #[.pointer (some ⟨g, 0, none⟩)] 41)).alloc (.cells #[.int .i64 0] 3) := ⟨_, rfl⟩
  have hz2 : w2.heap.size = w.heap.size + 2 := by rw [hw2]; simp
  have lg := blk_lt hI.1
  have hz0 := hB.size
  have hSC : SC w0 w2 w2 w2 g w.heap.size (w.heap.size + 1) s (i : Int) (.int .i64 0) := by
    refine ⟨by rw [hw2]; exact (hI.alloc _).alloc _, by rw [hw2]; exact (hB.alloc hz0 _).alloc (by rw [World.size_alloc]; omega) _, by rw [hw2]; exact blk_alloc (blk_new w _) _, ?_, ⟨Nat.le_refl _, fun _ _ _ _ => rfl⟩, by omega⟩
    have h := blk_new (w.alloc (.cells #[.pointer (some ⟨g, 0, none⟩)] 41)) (.cells #[.int .i64 0] 3)
    rw [World.size_alloc] at h
    rw [hw2]
    exact h
  have HG := Aside0.mk (guard_sc (j := ((scNum s i).2.1 : Int)) (v1 := .int .i64 (scNum s i).2.2) (ok := (scNum s i).1) (f := 43) (cap := #[.pointer (some ⟨w.heap.size, 0, none⟩), .pointer (some ⟨w.heap.size + 1, 0, none⟩)]) hSC (by omega) (fun _ _ => rfl) (fun W hW hS => num1 w0 w2 W W g _ _ s i hs (by have := hW.size; omega) hS))
  obtain ⟨r, hr⟩ : ∃ r, r = scNum s i := ⟨_, rfl⟩
  rw [← hr] at HG
  rw [← hr]
  have HK0 := Aside0.mk (show ∀ k, k < w.heap.size → w2.heap[k]? = w.heap[k]? from fun k hk => by rw [hw2, Below.heap_alloc _ _ _ (by rw [World.size_alloc]; omega), Below.heap_alloc _ _ _ hk])
  have HW2 := Aside0.mk hw2
  have HZ2 := Aside0.mk hz2
  clear hI hB hSC hr hw2 hz2
  obtain ⟨ok, j, v⟩ := r
  have HH : ∀ (e : Ending) (w' : World), (e = .returned (.bool ok) ∧ IsS72 w0 w' g s (j : Int) (!ok) ∧ Below w0.heap.size w0 w' ∧ w2.heap.size ≤ w'.heap.size ∧ w'.heap[w.heap.size + 1]? = some (.cells #[.int .i64 v] 3 (0, 0)) ∧ w'.heap[w.heap.size]? = some (.cells #[.pointer (some ⟨g, 0, none⟩)] 41 (0, 0)) ∧ ∀ k, k < w2.heap.size → k ≠ g → k ≠ w.heap.size + 1 → w'.heap[k]? = w2.heap[k]?) →
      e = .returned (.bool ok) ∧ IsS72 w0 w' g s (j : Int) (!ok) ∧ Below w0.heap.size w0 w' ∧ KeepBut w w' g none ∧ w'.cell? ⟨w.heap.size + 1, 0, none⟩ = some (.int .i64 v) ∧ w'.cell? ⟨w.heap.size, 0, none⟩ = some (.pointer (some ⟨g, 0, none⟩)) := fun e w' ⟨h1, h2, h3, h4, h5, h6, h7⟩ =>
    ⟨h1, h2, h3, ⟨by have := HZ2.out; omega, fun k hk hg _ => (h7 k (by have := HZ2.out; omega) hg (by omega)).trans (HK0.out k hk)⟩, blk_cell h5 0, blk_cell h6 0⟩
  have HG2 := Aside0.mk (HG.out.mono HH)
  clear HG HH HK0 HZ2
  cases ok with
  | true =>
    go_enter Try.func17, Try.ntmps17
    go_wp2_with (rw [← HW2.out]; refine Calls.mono HG2.out ?_; rintro e w3 ⟨rfl, hI3, hB3, hK3, hcn, hcx⟩; have HI := Aside0.mk hI3; have HB := Aside0.mk hB3; have HK := Aside0.mk hK3; clear HG2 hI3 hB3 hK3)
    go_ret
    exact ⟨by simp, HI.out, HB.out, HK.out⟩
  | false =>
    go_enter Try.func17, Try.ntmps17
    go_wp2_with (rw [← HW2.out]; refine Calls.mono HG2.out ?_; rintro e w3 ⟨rfl, hI3, hB3, hK3, hcn, hcx⟩; have HI := Aside0.mk hI3; have HB := Aside0.mk hB3; have HK := Aside0.mk hK3; clear HG2 hI3 hB3 hK3)
    go_ret
    exact ⟨by simp, HI.out, HB.out, HK.out⟩

set_option maxHeartbeats 4000000 in
set_option maxRecDepth 100000 in
theorem number_bad (w0 w : World) (g : Nat) (s : ByteArray) (i : Int) (hI : IsS72 w0 w g s i true) (hB : Below w0.heap.size w0 w) :
    Calls Try.prog 17 #[.pointer (some ⟨g, 0, none⟩)] w fun e w' => e = .returned (.int .i64 0) ∧ IsS72 w0 w' g s i true ∧ Below w0.heap.size w0 w' ∧ KeepBut w w' g none := by
  have hmf : ∀ (fn : Fn) (first cap : Array Value) (w : World), (Instr.makeFunc fn first cap).run Try.prog w = .ok (.func fn first cap) w := fun _ _ _ _ => rfl
  obtain ⟨w2, hw2⟩ : ∃ w2, w2 = (w.alloc (.cells #[.pointer (some ⟨g, 0, none⟩)] 41)).alloc (.cells #[.int .i64 0] 3) := ⟨_, rfl⟩
  have hb2 : Below w.heap.size w w2 := by rw [hw2]; exact ((Below.refl _ w).alloc (Nat.le_refl _) _).alloc (Nat.le_of_lt (by rw [World.size_alloc]; exact Nat.lt_succ_self _)) _
  have HG := Aside0.mk (guard_failed w0 w2 g s i 43 #[.pointer (some ⟨w.heap.size, 0, none⟩), .pointer (some ⟨w.heap.size + 1, 0, none⟩)] (hI.below hb2) (below_weaken hB hB.size hb2))
  have HW2 := Aside0.mk hw2
  have HB2 := Aside0.mk hb2
  clear hI hB hw2 hb2
  go_enter Try.func17, Try.ntmps17
  go_wp2_with (rw [← HW2.out]; refine Calls.mono HG.out ?_; rintro e w3 ⟨rfl, hI3, hB3, hK3⟩; have HI := Aside0.mk hI3; have HB := Aside0.mk hB3; have HK := Aside0.mk (KeepBut.of_below (below_then HB2.out HB2.out.size hK3) g none); clear HG hI3 hB3 hK3)
  go_ret
  exact ⟨rfl, HI.out, HB.out, HK.out⟩
end Go.Proofs.Ytkpicinbckedoaa.Q
