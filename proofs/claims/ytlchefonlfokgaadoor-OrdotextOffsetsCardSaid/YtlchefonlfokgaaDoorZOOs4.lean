/- What is proved: what the statement OrdotextOffsetsSaid needs, part 5 of 12; the last part proves the statement. No condition. -/
import Derived.Test.YtlchefonlfokgaaDoorZOOs3
import Derived.Lib.OthersKept
set_option maxHeartbeats 8000000
set_option maxRecDepth 100000
set_option linter.unusedVariables false
set_option linter.unusedSimpArgs false
section
namespace Go.Proofs.YtlchefonlfokgaaDoor.Q
open Go.RowKit Go.Proofs.YtlchefonlfokgaaDoorW.PrintWords Go.Proofs.YtlchefonlfokgaaDoorW.PrintLast Go.Proofs.YtlchefonlfokgaaDoorW.PrintMore
set_option maxRecDepth 100000
structure SC (w0 w Ws W : World) (g bx bn : Nat) (s : ByteArray) (i : Int) (v : Value) : Prop where
 I : IsS77 w0 W g s i false
 B : Below w0.heap.size w0 W
 X : W.heap[bx]? = some (.cells #[.pointer (some ⟨g, 0, none⟩)] 45 (0, 0))
 N : W.heap[bn]? = some (.cells #[v] 3 (0, 0))
 K : Ws.heap.size ≤ W.heap.size ∧ ∀ k, k < Ws.heap.size → k ≠ g → k ≠ bn → W.heap[k]? = Ws.heap[k]?
 A : bx ≠ g ∧ bn ≠ g ∧ bx ≠ bn ∧ w0.heap.size ≤ bn ∧ g < w.heap.size ∧ bn < w.heap.size
theorem SC.keep {w0 w Ws W W' : World} {g bx bn : Nat} {s : ByteArray} {i j : Int} {v : Value} (h : SC w0 w Ws W g bx bn s i v) (hI : IsS77 w0 W' g s j false) (hB : Below w0.heap.size w0 W') (hK : KeepBut W W' g none) : SC w0 w Ws W' g bx bn s j v :=
 ⟨hI, hB, hK.blk h.X h.A.1 (by simp), hK.blk h.N h.A.2.1 (by simp), ⟨Nat.le_trans h.K.1 hK.1, fun k h1 h2 h3 => (hK.2 k (Nat.lt_of_lt_of_le h1 h.K.1) h2 (by simp)).trans (h.K.2 k h1 h2 h3)⟩, h.A⟩
theorem SC.alloc {w0 w Ws W : World} {g bx bn : Nat} {s : ByteArray} {i : Int} {v : Value} (h : SC w0 w Ws W g bx bn s i v) (o : Obj) : SC w0 w Ws (W.alloc o) g bx bn s i v :=
 h.keep (h.I.alloc o) (h.B.alloc h.B.size o) ⟨by rw [World.size_alloc]; omega, fun k hk _ _ => Below.heap_alloc W o k hk⟩
theorem SC.drewN {w0 w Ws W : World} {g bx bn : Nat} {s : ByteArray} {i : Int} {v : Value} (h : SC w0 w Ws W g bx bn s i v) (n : Nat) : SC w0 w Ws (W.drewN n) g bx bn s i v :=
 ⟨h.I.drewN n, pw_below_drewN h.B n, h.X, h.N, h.K, h.A⟩
theorem SC.setN {w0 w Ws W : World} {g bx bn : Nat} {s : ByteArray} {i : Int} {v : Value} (h : SC w0 w Ws W g bx bn s i v) (u : Value) : SC w0 w Ws (W.setCell ⟨bn, 0, none⟩ u) g bx bn s i u :=
 ⟨h.I.far (fun e => h.A.2.1 e.symm) u, h.B.setCell h.A.2.2.2.1 u, blk_far h.X h.A.2.2.1 u, blk_set h.N 0 u, ⟨by rw [World.size_setCell]; exact h.K.1, fun k h1 h2 h3 => (Below.heap_setCell W _ u k h3).trans (h.K.2 k h1 h2 h3)⟩, h.A⟩
theorem SC.iterAt {w0 w Ws W : World} {g bx bn : Nat} {s : ByteArray} {i : Int} {v : Value} (h : SC w0 w Ws W g bx bn s i v) {k : Nat} {t t' : ByteArray} {p : Nat} (p' : Nat) (hk : W.heap[k]? = some (.stringIter t p)) (hz : Ws.heap.size ≤ k) (h0 : w0.heap.size ≤ Ws.heap.size) : SC w0 w Ws (W.iterAt k t' p') g bx bn s i v := by
 have ne : ∀ {q : Nat} {cs : Array Value} {T : TypeId}, W.heap[q]? = some (.cells cs T (0, 0)) → q ≠ k := fun hq e => by subst e; rw [hk] at hq; exact absurd hq (by simp)
 exact ⟨⟨(Lib.iterAt_other W k g t' p' (ne h.I.1)).trans h.I.1, h.I.2⟩, Lib.below_iterAt h.B (by omega) t' p', (Lib.iterAt_other W k bx t' p' (ne h.X)).trans h.X, (Lib.iterAt_other W k bn t' p' (ne h.N)).trans h.N, ⟨by rw [Lib.iterAt_size]; exact h.K.1, fun q h1 h2 h3 => (Lib.iterAt_other W k q t' p' (by omega)).trans (h.K.2 q h1 h2 h3)⟩, h.A⟩
theorem SC.cx {w0 w Ws W : World} {g bx bn : Nat} {s : ByteArray} {i : Int} {v : Value} (h : SC w0 w Ws W g bx bn s i v) : W.cell? ⟨bx, 0, none⟩ = some (.pointer (some ⟨g, 0, none⟩)) := blk_cell h.X 0
theorem SC.cn {w0 w Ws W : World} {g bx bn : Nat} {s : ByteArray} {i : Int} {v : Value} (h : SC w0 w Ws W g bx bn s i v) : W.cell? ⟨bn, 0, none⟩ = some v := blk_cell h.N 0
theorem SC.fn {w0 w Ws W : World} {g bx bn : Nat} {s : ByteArray} {i : Int} {v : Value} (h : SC w0 w Ws W g bx bn s i v) : W.frozen? ⟨bn, 0, none⟩ = false := blk_frozen h.N 0
theorem SC.cs {w0 w Ws W : World} {g bx bn : Nat} {s : ByteArray} {i : Int} {v : Value} (h : SC w0 w Ws W g bx bn s i v) : W.cell? ⟨g, 0, none⟩ = some (.string s) := cellS77_0 h.I.1
theorem SC.ca {w0 w Ws W : World} {g bx bn : Nat} {s : ByteArray} {i : Int} {v : Value} (h : SC w0 w Ws W g bx bn s i v) : W.cell? ⟨g, 1, none⟩ = some (.int .i64 i) := cellS77_1 h.I.1
theorem SC.iterKeep {w0 w Ws W : World} {g bx bn : Nat} {s : ByteArray} {i : Int} {v : Value} (h : SC w0 w Ws W g bx bn s i v) (t : ByteArray) : (W.drew.iter t 0).cell? ⟨bx, 0, none⟩ = some (.pointer (some ⟨g, 0, none⟩)) ∧ (W.drew.iter t 0).cell? ⟨g, 0, none⟩ = some (.string s) ∧ (W.drew.iter t 0).cell? ⟨g, 1, none⟩ = some (.int .i64 i) :=
 ⟨((h.drewN 1).alloc (.stringIter t 0)).cx, ((h.drewN 1).alloc (.stringIter t 0)).cs, ((h.drewN 1).alloc (.stringIter t 0)).ca⟩
theorem SC.iterStart {w0 w Ws W : World} {g bx bn : Nat} {s : ByteArray} {i : Int} {v : Value} (h : SC w0 w Ws W g bx bn s i v) (t : ByteArray) : SC w0 w Ws (W.drew.iter t 0) g bx bn s i v ∧ (W.drew.iter t 0).heap[W.heap.size]? = some (.stringIter t 0) :=
 ⟨(h.drewN 1).alloc (.stringIter t 0), World.iter_heap W.drew t 0⟩
theorem SC.take {w0 w Ws W : World} {g bx bn : Nat} {s : ByteArray} {i : Nat} {v : Value} {f : Nat} {cap : Array Value} {p : Int → Bool} {b : Bool} (h : SC w0 w Ws W g bx bn s (i : Int) v) (hs : s.size ≤ 4611686018427387904) (hp : PredOk w0 W g s (i : Int) false f cap p) (hb : scTake s i p = b) :
  Calls Tryd.prog 76 #[.pointer (some ⟨g, 0, none⟩), .func (.func f) #[] cap] W fun e W' => e = .returned (.bool b) ∧ SC w0 w Ws W' g bx bn s (if b then ((i + 1 : Nat) : Int) else (i : Int)) v ∧ KeepBut W W' g none := by
 refine (take_any w0 W g s i false f cap p h.I h.B hs hp).mono ?_
 rintro e W' ⟨he, hI, hB, hK⟩
 rw [hb] at he hI
 refine ⟨he, h.keep ?_ hB hK, hK⟩
 cases b <;> exact hI
theorem SC.take_is {w0 w Ws W : World} {g bx bn : Nat} {s : ByteArray} {i : Nat} {v : Value} {k : Int} {b : Bool} (h : SC w0 w Ws W g bx bn s (i : Int) v) (hs : s.size ≤ 4611686018427387904) (hb : scTake s i (pIs k) = b) :
  Calls Tryd.prog 76 #[.pointer (some ⟨g, 0, none⟩), .func (.func 88) #[] #[.pointer (some ⟨W.heap.size, 0, none⟩)]] (W.alloc (.cells #[.int .u8 k] 5)).drew fun e W' => e = .returned (.bool b) ∧ SC w0 w Ws W' g bx bn s (if b then ((i + 1 : Nat) : Int) else (i : Int)) v ∧ KeepBut W W' g none := by
 have h1 : SC w0 w Ws (W.alloc (.cells #[.int .u8 k] 5)).drew g bx bn s (i : Int) v := (h.alloc _).drewN 1
 refine (h1.take hs (is_ok w0 _ g s (i : Int) false W.heap.size k (blk_new W _) (fun e => by have := blk_lt h.I.1; omega)) hb).mono ?_
 rintro e W' ⟨he, hS, hK⟩
 have hz : (W.alloc (.cells #[.int .u8 k] 5)).drew.heap.size = W.heap.size + 1 := World.size_alloc W _
 exact ⟨he, hS, ⟨by have := hK.1; omega, fun q h1 h2 h3 => (hK.2 q (by omega) h2 h3).trans (Below.heap_alloc W _ q h1)⟩⟩
theorem SC.must {w0 w Ws W : World} {g bx bn : Nat} {s : ByteArray} {i : Nat} {v : Value} {f : Nat} {cap : Array Value} {p : Int → Bool} {b : Bool} (h : SC w0 w Ws W g bx bn s (i : Int) v) (hs : s.size ≤ 4611686018427387904) (hp : PredOk w0 W g s (i : Int) false f cap p) (hb : scTake s i p = b) :
  Calls Tryd.prog 45 #[.pointer (some ⟨g, 0, none⟩), .func (.func f) #[] cap] W fun e W' => e = (if b then .returned (.tuple #[]) else .panicked scFail) ∧ SC w0 w Ws W' g bx bn s (if b then ((i + 1 : Nat) : Int) else (i : Int)) v ∧ KeepBut W W' g none := by
 cases b with
 | true =>
  refine (must_yes w0 W g s i false f cap p h.I h.B hs hp hb).mono ?_
  rintro e W' ⟨he, hI, hB, hK⟩
  exact ⟨he, h.keep hI hB hK, hK⟩
 | false =>
  refine (must_no w0 W g s i false f cap p h.I h.B hs hp hb).mono ?_
  rintro e W' ⟨he, hI, hB, hK⟩
  exact ⟨he, h.keep hI hB hK, hK⟩
def scRun (p : Int → Bool) (s : ByteArray) : Nat → Nat → Nat
 | 0, j => j
 | k + 1, j => if scTake s j p then scRun p s k (j + 1) else j
theorem scTake_lt {s : ByteArray} {i : Nat} {p : Int → Bool} (h : scTake s i p = true) : i < s.size := by simp [scTake] at h; exact h.1
def scVal (s : ByteArray) : Nat → Nat → Int → Int
 | 0, _, a => a
 | k + 1, j, a => scVal s k (j + 1) (10 * a + (bt s j - 48))
theorem scRun_spec (p : Int → Bool) (s : ByteArray) : ∀ (k j : Nat), j ≤ s.size → j ≤ scRun p s k j ∧ scRun p s k j ≤ s.size ∧ scRun p s k j ≤ j + k ∧ ∀ q, j ≤ q → q < scRun p s k j → p (bt s q) = true
 | 0, j, h => ⟨Nat.le_refl _, h, Nat.le_refl _, fun q h1 h2 => absurd h2 (by simp only [scRun]; omega)⟩
 | k + 1, j, h => by
  rw [scRun]
  by_cases hc : scTake s j p = true
  ·rw [if_pos hc]
   have h0 := scTake_lt hc
   obtain ⟨h1, h2, h3, h4⟩ := scRun_spec p s k (j + 1) h0
   refine ⟨by omega, h2, by omega, fun q h5 h6 => ?_⟩
   by_cases h7 : q = j
   ·subst h7
    simp [scTake] at hc
    exact hc.2
   ·exact h4 q (by omega) h6
  ·rw [if_neg hc]
   exact ⟨Nat.le_refl _, h, by omega, fun q h1 h2 => absurd h2 (by omega)⟩
theorem scDigits {s : ByteArray} {i J : Nat} (hlt : i < s.size) (h : scTake s i pLeading = true) (hJ : J = scRun pDigit s 9 (i + 1)) : i < J ∧ J ≤ s.size ∧ J ≤ i + 10 ∧ ∀ q : Nat, i ≤ q → q < J → 48 ≤ bt s q ∧ bt s q ≤ 57 := by
 obtain ⟨h1, h2, h3, h4⟩ := scRun_spec pDigit s 9 (i + 1) hlt
 subst hJ
 refine ⟨by omega, h2, by omega, fun q h5 h6 => ?_⟩
 by_cases h7 : q = i
 ·subst h7
  simp [scTake, pLeading] at h
  omega
 ·have := h4 q (by omega) h6
  simp [pDigit] at this
  exact this
theorem scPow {pos : Nat} {acc : Int} (h : pos ≤ 10) (ha : acc < 10 ^ pos) : acc < 10000000000 := by
 have h1 : (10 : Int) ^ pos ≤ 10 ^ 10 := by exact_mod_cast Nat.pow_le_pow_right (by decide) h
 have h2 : (10 : Int) ^ 10 = 10000000000 := by decide
 omega
theorem scText (s : ByteArray) (i J : Nat) (h : i ≤ J) (hJ : (J : Int) ≤ (s.size : Int)) : (s.extract i J).size = J - i ∧ ∀ pos : Nat, (h : pos < (s.extract i J).size) → ((((s.extract i J)[pos]'h).toNat : Nat) : Int) = bt s ((i + pos : Nat) : Int) := by
 refine ⟨by simp; omega, fun pos hp => ?_⟩
 have h2 : i + pos < s.size := by simp at hp; omega
 rw [bt, dif_pos (by omega)]
 simp only [ByteArray.getElem_extract, Int.toNat_natCast]
def scNum (s : ByteArray) (i : Nat) : Bool × Nat × Int :=
 if scTake s i (pIs 48) then (true, i + 1, 0)
 else if scTake s i (pIs 45) then
  if scTake s (i + 1) pLeading then (true, scRun pDigit s 9 (i + 1 + 1), -(scVal s (scRun pDigit s 9 (i + 1 + 1) - (i + 1)) (i + 1) 0)) else (false, i + 1, 0)
 else
  if scTake s i pLeading then (true, scRun pDigit s 9 (i + 1), scVal s (scRun pDigit s 9 (i + 1) - i) i 0) else (false, i, 0)
theorem num1 (w0 w Ws W : World) (g bx bn : Nat) (s : ByteArray) (i : Nat) (hs : s.size ≤ 4611686018427387904) (hw0 : w0.heap.size ≤ Ws.heap.size) (h : SC w0 w Ws W g bx bn s (i : Int) (.int .i64 0)) :
  Calls Tryd.prog 77 #[.pointer (some ⟨bx, 0, none⟩), .pointer (some ⟨bn, 0, none⟩)] W fun e W' => e = (if (scNum s i).1 then .returned (.tuple #[]) else .panicked scFail) ∧ SC w0 w Ws W' g bx bn s ((scNum s i).2.1 : Int) (.int .i64 (scNum s i).2.2) := by
 have HW0 := Aside0.mk hw0
 have HS := Aside0.mk h
 have hcx : W.cell? ⟨bx, 0, none⟩ = some (.pointer (some ⟨g, 0, none⟩)) := blk_cell h.X 0
 have lx := blk_lt h.X
 clear h hw0
 obtain ⟨b0, hb0⟩ : ∃ b, scTake s i (pIs 48) = b := ⟨_, rfl⟩
 have H0 := Aside0.mk hb0
 cases b0 with
 | true =>
  have he : scNum s i = (true, i + 1, 0) := by rw [scNum, hb0]; rfl
  rw [he]
  clear hb0 he
  go_enter Tryd.func77, Tryd.ntmps77
  go_wp2_with fail
  go_region_held3 (fun w' => w'.cell? ⟨bx, 0, none⟩ = some (.pointer (some ⟨g, 0, none⟩)))
   (first | (with_reducible exact HS.out.cx) | go_keep)
   (first | (go_at_call 78; refine (is_calls _ _).mono ?_; rintro e w1 ⟨rfl, rfl⟩) | (go_at_call 76; refine Calls.mono (HS.out.take_is hs H0.out) ?_; rintro e w2 ⟨rfl, h2, hk2⟩; have n0_ := Aside0.mk (show SC w0 w Ws w2 g bx bn s ((i + 1 : Nat) : Int) _ from h2); clear HS h2 hk2; have HS := n0_; clear n0_))
  go_wp2_with fail
  refine bodyPost_ret (results_none rfl _ _ _) rfl ?_
  exact ⟨by simp, HS.out⟩
 | false =>
  obtain ⟨b1, hb1⟩ : ∃ b, scTake s i (pIs 45) = b := ⟨_, rfl⟩
  have H1 := Aside0.mk hb1
  cases b1 with
  | true =>
   obtain ⟨i1, hi0⟩ : ∃ j, j = i + 1 := ⟨_, rfl⟩
   have hi1 := Aside0.mk hi0
   obtain ⟨b2, hb2⟩ : ∃ b, scTake s (i1) pLeading = b := ⟨_, rfl⟩
   have H2 := Aside0.mk hb2
   cases b2 with
   | true =>
    have he : scNum s i = (true, scRun pDigit s 9 (i1 + 1), -(scVal s (scRun pDigit s 9 (i1 + 1) - (i1)) (i1) 0)) := by simp [scNum, hb0, hb1, ← hi0, hb2]
    rw [he]
    clear hb0 he hb1 hb2 hi0
    obtain ⟨J, hJ⟩ : ∃ j, j = scRun pDigit s 9 (i1 + 1) := ⟨_, rfl⟩
    rw [← hJ]
    have HJ0 := Aside0.mk hJ
    clear hJ
    go_enter Tryd.func77, Tryd.ntmps77
    go_wp2_with fail
    go_region_held3 (fun w' => w'.cell? ⟨bx, 0, none⟩ = some (.pointer (some ⟨g, 0, none⟩)))
     (first | (with_reducible exact HS.out.cx) | go_keep)
     (first | (go_at_call 78; refine (is_calls _ _).mono ?_; rintro e w1 ⟨rfl, rfl⟩) | (go_at_call 76; refine Calls.mono (HS.out.take_is hs H0.out) ?_; rintro e w2 ⟨rfl, h2, hk2⟩; have n0_ := Aside0.mk (show SC w0 w Ws w2 g bx bn s ((i : Nat) : Int) _ from h2); clear HS h2 hk2; have HS := n0_; clear n0_))
    go_wp2_with fail
    go_region_held3 (fun w' => w'.cell? ⟨bx, 0, none⟩ = some (.pointer (some ⟨g, 0, none⟩)))
     (first | (with_reducible exact HS.out.cx) | go_keep)
     (first | (go_at_call 78; refine (is_calls _ _).mono ?_; rintro e w1 ⟨rfl, rfl⟩) | (go_at_call 76; refine Calls.mono (HS.out.take_is hs H1.out) ?_; rintro e w2 ⟨rfl, h2, hk2⟩; have n0_ := Aside0.mk (show SC w0 w Ws w2 g bx bn s ((i1 : Nat) : Int) _ from (by rw [hi1.out]; exact h2)); clear HS h2 hk2; have HS := n0_; clear n0_))
    have hcx := HS.out.cx
    have hca := HS.out.ca
    go_wp2_with (go_at_call 45; refine Calls.mono (HS.out.must hs (leading_ok w0 _ g s _ false) H2.out) ?_; rintro e w2 ⟨he, h2, hk2⟩; simp only [if_true, Bool.false_eq_true, if_false] at he h2; subst he; have n0_ := Aside0.mk h2; clear HS h2 hk2 hcx hca; have HS := n0_; clear n0_)
    have hlt : i1 < s.size := scTake_lt H2.out
    go_loopg [28] 9 (fun kq v28 w' => ∃ j : Nat, Aside0 (j + kq = i1 + 10) ∧ Aside0 (scRun pDigit s kq j = J ∧ i1 < j) ∧ Aside0 (SC w0 w Ws w' g bx bn s (j : Int) (.int .i64 0)))
    case atStart => exact ⟨i1 + 1, ⟨by omega⟩, ⟨HJ0.out.symm, by omega⟩, HS⟩
    case round =>
     clear HS
     obtain ⟨j, HJ, HR, HS⟩ := hrel
     have hcx := HS.out.cx
     have hca := HS.out.ca
     have hj := HJ.out
     have hj2 := HR.out.2
     by_cases hk : gk = 0
     ·have hj3 : (j : Int) = i1 + 10 := by omega
      have e0 : J = j := by have h2 := HR.out.1; rw [hk] at h2; exact h2.symm
      subst hk
      subst e0
      go_wp2_with fail
      clear hj3
      have hcx := HS.out.cx
      have hca := HS.out.ca
      have hcs := HS.out.cs
      have F := Aside0.mk (scDigits hlt H2.out HJ0.out)
      have fj := F.out.1
      have fz := F.out.2.1
      have c1 : (0 : Int) ≤ (i1 : Int) := Int.natCast_nonneg _
      have c2 : (i1 : Int) ≤ (J : Int) := by omega
      have c3 : (0 : Int) ≤ (J : Int) := Int.natCast_nonneg _
      have c4 : (J : Int) ≤ (s.size : Int) := by omega
      have lx := blk_lt HS.out.X
      have lg := blk_lt HS.out.I.1
      go_region_held3 (fun w' => w'.cell? ⟨bx, 0, none⟩ = some (.pointer (some ⟨g, 0, none⟩)) ∧ w'.cell? ⟨g, 0, none⟩ = some (.string s) ∧ w'.cell? ⟨g, 1, none⟩ = some (.int .i64 J)) (first | (with_reducible exact SC.iterKeep HS.out _) | go_keep) (fail)
      have HQ := Aside0.mk (SC.iterStart HS.out (s.extract i1 J))
      obtain ⟨W1, hW1⟩ : ∃ W1, W1 = wr.drew.iter (s.extract i1 J) 0 := ⟨_, rfl⟩
      rw [← hW1] at HQ
      rw [← hW1]
      have hzz : wr.drew.heap.size = wr.heap.size := rfl
      obtain ⟨it, hit⟩ : ∃ it, it = wr.heap.size := ⟨_, rfl⟩
      have HZ := Aside0.mk (show Ws.heap.size ≤ it by rw [hit]; exact HS.out.K.1)
      rw [← hit] at HQ
      try rw [hzz]
      rw [← hit]
      clear hW1 hit hzz hcx hca hcs HS lx lg
      try clear hj3
      try clear hlt
      have HT := Aside0.mk (scText s i1 J (by omega) c4)
      obtain ⟨t, ht⟩ : ∃ t, t = s.extract i1 J := ⟨_, rfl⟩
      rw [← ht] at HQ HT
      clear ht
      go_wp2_with fail
      go_loopg [43] t.size (fun kq v43 w' => ∃ (pos : Nat) (acc : Int), Aside0 (pos + kq = t.size) ∧ Aside0 (SC w0 w Ws w' g bx bn s (J : Int) (.int .i64 acc)) ∧ Aside0 (w'.heap[it]? = some (.stringIter t pos)) ∧ Aside0 (0 ≤ acc ∧ acc < 10 ^ pos) ∧ Aside0 (scVal s kq (i1 + pos) acc = scVal s (J - i1) i1 0))
      case atStart => exact ⟨0, 0, ⟨by omega⟩, ⟨HQ.out.1⟩, ⟨HQ.out.2⟩, ⟨by decide⟩, ⟨by rw [HT.out.1]; rfl⟩⟩
      case round =>
       clear HQ
       obtain ⟨pos, acc, HP, HS, HH, HA, HV⟩ := hrel
       have hp := HP.out
       have ha := HA.out.1
       by_cases hk : gk = 0
       ·subst hk
        have hV : acc = scVal s (J - i1) i1 0 := HV.out
        have hb10 := scPow (show pos ≤ 10 by have := HT.out.1; have := F.out.2.2.1; omega) HA.out.2
        have hnx : ∀ ty, (Instr.next (.pointer (some ⟨it, 0, none⟩)) true ty).run Tryd.prog wr = _ := fun ty => Lib.run_next_end_at wr it t pos ty HH.out (by omega)
        have hcn := HS.out.cn
        have hfn := HS.out.fn
        go_wp2_with fail
        go_end0
        exact ⟨by simp, HS.out.setN _⟩
       ·obtain ⟨k1, rfl⟩ : ∃ m, gk = m + 1 := ⟨gk - 1, by omega⟩
        have hlt1 : pos < t.size := by omega
        obtain ⟨c, hc⟩ : ∃ c, c = bt s ((i1 + pos : Nat) : Int) := ⟨_, rfl⟩
        have hd := F.out.2.2.2 (i1 + pos) (by omega) (by have := HT.out.1; omega)
        rw [← hc] at hd
        have he := (HT.out.2 pos hlt1).trans hc.symm
        have hnx : ∀ ty, (Instr.next (.pointer (some ⟨it, 0, none⟩)) true ty).run Tryd.prog wr = .ok (.tuple #[.bool true, .int .i64 (pos : Int), .int .i32 c]) (wr.iterAt it t (pos + 1)) := fun ty => by rw [Lib.run_next_ascii_at wr it t pos ty HH.out hlt1 (by omega), he]
        have HS1 := Aside0.mk (HS.out.iterAt (t' := t) (pos + 1) HH.out HZ.out HW0.out)
        have HH1 := Aside0.mk (Lib.iterAt_heap wr it t pos (pos + 1) HH.out)
        have hcn := HS1.out.cn
        have hfn := HS1.out.fn
        have hb10 := scPow (show pos ≤ 10 by have := HT.out.1; have := F.out.2.2.1; omega) HA.out.2
        have hc1 := hd.1
        have hc2 := hd.2
        have HC := Aside0.mk hc
        clear he hd hc
        have hw1 : wrap32 (c - 48) = c - 48 := by unfold wrap32; omega
        have hw2 : wrap64 (c - 48) = c - 48 := by unfold wrap64; omega
        have hw3 : wrap64 (10 * acc + (c - 48)) = 10 * acc + (c - 48) := by unfold wrap64; omega
        go_wp2_with fail
        go_roundg k1
        case measure => omega
        case rel =>
         refine ⟨pos + 1, 10 * acc + (c - 48), ⟨by omega⟩, ⟨?_⟩, ⟨?_⟩, ⟨?_⟩, ⟨?_⟩⟩
         ·try simp only [hw1, hw2, hw3]
          exact HS1.out.setN _
         ·exact (Below.heap_setCell _ _ _ _ (fun e => by have h1 := HS1.out.N; rw [show bn = it from e.symm, HH1.out] at h1; exact absurd h1 (by simp))).trans HH1.out
         ·rw [Int.pow_succ]; have := HA.out.2; exact ⟨by omega, by omega⟩
         ·have h2 := HV.out; rw [scVal, ← HC.out] at h2; exact h2
     ·obtain ⟨k1, rfl⟩ : ∃ m, gk = m + 1 := ⟨gk - 1, by omega⟩
      obtain ⟨b3, hb3⟩ : ∃ b, scTake s j pDigit = b := ⟨_, rfl⟩
      have H3 := Aside0.mk hb3
      have hj3 : (j : Int) < i1 + 10 := by omega
      cases b3 with
      | true =>
       go_wp2_with (go_at_call 76; refine Calls.mono (HS.out.take hs (digit_ok w0 _ g s _ false) H3.out) ?_; rintro e w3 ⟨rfl, h2, hk2⟩; have n0_ := Aside0.mk (show SC w0 w Ws w3 g bx bn s ((j + 1 : Nat) : Int) _ from h2); clear HS h2 hk2 hcx hca; have HS := n0_; clear n0_)
       go_roundg k1
       case measure => omega
       case rel => exact ⟨j + 1, ⟨by omega⟩, ⟨by have h2 := HR.out.1; rw [scRun, if_pos H3.out] at h2; exact h2, by omega⟩, HS⟩
      | false =>
       have e0 : J = j := by have h2 := HR.out.1; rw [scRun, if_neg (by rw [H3.out]; simp)] at h2; exact h2.symm
       subst e0
       go_wp2_with (go_at_call 76; refine Calls.mono (HS.out.take hs (digit_ok w0 _ g s _ false) H3.out) ?_; rintro e w3 ⟨rfl, h2, hk2⟩; have n0_ := Aside0.mk (show SC w0 w Ws w3 g bx bn s ((J : Nat) : Int) _ from h2); clear HS h2 hk2 hcx hca; have HS := n0_; clear n0_)
       have hcx := HS.out.cx
       have hca := HS.out.ca
       have hcs := HS.out.cs
       have F := Aside0.mk (scDigits hlt H2.out HJ0.out)
       have fj := F.out.1
       have fz := F.out.2.1
       have c1 : (0 : Int) ≤ (i1 : Int) := Int.natCast_nonneg _
       have c2 : (i1 : Int) ≤ (J : Int) := by omega
       have c3 : (0 : Int) ≤ (J : Int) := Int.natCast_nonneg _
       have c4 : (J : Int) ≤ (s.size : Int) := by omega
       have lx := blk_lt HS.out.X
       have lg := blk_lt HS.out.I.1
       go_region_held3 (fun w' => w'.cell? ⟨bx, 0, none⟩ = some (.pointer (some ⟨g, 0, none⟩)) ∧ w'.cell? ⟨g, 0, none⟩ = some (.string s) ∧ w'.cell? ⟨g, 1, none⟩ = some (.int .i64 J)) (first | (with_reducible exact SC.iterKeep HS.out _) | go_keep) (fail)
       have HQ := Aside0.mk (SC.iterStart HS.out (s.extract i1 J))
       obtain ⟨W1, hW1⟩ : ∃ W1, W1 = w3.drew.iter (s.extract i1 J) 0 := ⟨_, rfl⟩
       rw [← hW1] at HQ
       rw [← hW1]
       have hzz : w3.drew.heap.size = w3.heap.size := rfl
       obtain ⟨it, hit⟩ : ∃ it, it = w3.heap.size := ⟨_, rfl⟩
       have HZ := Aside0.mk (show Ws.heap.size ≤ it by rw [hit]; exact HS.out.K.1)
       rw [← hit] at HQ
       try rw [hzz]
       rw [← hit]
       clear hW1 hit hzz hcx hca hcs HS lx lg
       try clear hj3
       try clear hlt
       have HT := Aside0.mk (scText s i1 J (by omega) c4)
       obtain ⟨t, ht⟩ : ∃ t, t = s.extract i1 J := ⟨_, rfl⟩
       rw [← ht] at HQ HT
       clear ht
       go_wp2_with fail
       go_loopg [43] t.size (fun kq v43 w' => ∃ (pos : Nat) (acc : Int), Aside0 (pos + kq = t.size) ∧ Aside0 (SC w0 w Ws w' g bx bn s (J : Int) (.int .i64 acc)) ∧ Aside0 (w'.heap[it]? = some (.stringIter t pos)) ∧ Aside0 (0 ≤ acc ∧ acc < 10 ^ pos) ∧ Aside0 (scVal s kq (i1 + pos) acc = scVal s (J - i1) i1 0))
       case atStart => exact ⟨0, 0, ⟨by omega⟩, ⟨HQ.out.1⟩, ⟨HQ.out.2⟩, ⟨by decide⟩, ⟨by rw [HT.out.1]; rfl⟩⟩
       case round =>
        clear HQ
        obtain ⟨pos, acc, HP, HS, HH, HA, HV⟩ := hrel
        have hp := HP.out
        have ha := HA.out.1
        by_cases hk : gk = 0
        ·subst hk
         have hV : acc = scVal s (J - i1) i1 0 := HV.out
         have hb10 := scPow (show pos ≤ 10 by have := HT.out.1; have := F.out.2.2.1; omega) HA.out.2
         have hnx : ∀ ty, (Instr.next (.pointer (some ⟨it, 0, none⟩)) true ty).run Tryd.prog wr = _ := fun ty => Lib.run_next_end_at wr it t pos ty HH.out (by omega)
         have hcn := HS.out.cn
         have hfn := HS.out.fn
         go_wp2_with fail
         go_end0
         exact ⟨by simp, HS.out.setN _⟩
        ·obtain ⟨k1, rfl⟩ : ∃ m, gk = m + 1 := ⟨gk - 1, by omega⟩
         have hlt1 : pos < t.size := by omega
         obtain ⟨c, hc⟩ : ∃ c, c = bt s ((i1 + pos : Nat) : Int) := ⟨_, rfl⟩
         have hd := F.out.2.2.2 (i1 + pos) (by omega) (by have := HT.out.1; omega)
         rw [← hc] at hd
         have he := (HT.out.2 pos hlt1).trans hc.symm
         have hnx : ∀ ty, (Instr.next (.pointer (some ⟨it, 0, none⟩)) true ty).run Tryd.prog wr = .ok (.tuple #[.bool true, .int .i64 (pos : Int), .int .i32 c]) (wr.iterAt it t (pos + 1)) := fun ty => by rw [Lib.run_next_ascii_at wr it t pos ty HH.out hlt1 (by omega), he]
         have HS1 := Aside0.mk (HS.out.iterAt (t' := t) (pos + 1) HH.out HZ.out HW0.out)
         have HH1 := Aside0.mk (Lib.iterAt_heap wr it t pos (pos + 1) HH.out)
         have hcn := HS1.out.cn
         have hfn := HS1.out.fn
         have hb10 := scPow (show pos ≤ 10 by have := HT.out.1; have := F.out.2.2.1; omega) HA.out.2
         have hc1 := hd.1
         have hc2 := hd.2
         have HC := Aside0.mk hc
         clear he hd hc
         have hw1 : wrap32 (c - 48) = c - 48 := by unfold wrap32; omega
         have hw2 : wrap64 (c - 48) = c - 48 := by unfold wrap64; omega
         have hw3 : wrap64 (10 * acc + (c - 48)) = 10 * acc + (c - 48) := by unfold wrap64; omega
         go_wp2_with fail
         go_roundg k1
         case measure => omega
         case rel =>
          refine ⟨pos + 1, 10 * acc + (c - 48), ⟨by omega⟩, ⟨?_⟩, ⟨?_⟩, ⟨?_⟩, ⟨?_⟩⟩
          ·try simp only [hw1, hw2, hw3]
           exact HS1.out.setN _
          ·exact (Below.heap_setCell _ _ _ _ (fun e => by have h1 := HS1.out.N; rw [show bn = it from e.symm, HH1.out] at h1; exact absurd h1 (by simp))).trans HH1.out
          ·rw [Int.pow_succ]; have := HA.out.2; exact ⟨by omega, by omega⟩
          ·have h2 := HV.out; rw [scVal, ← HC.out] at h2; exact h2
   | false =>
    have he : scNum s i = (false, i1, 0) := by simp [scNum, hb0, hb1, ← hi0, hb2]
    rw [he]
    clear hb0 he hb1 hb2 hi0
    go_enter Tryd.func77, Tryd.ntmps77
    go_wp2_with fail
    go_region_held3 (fun w' => w'.cell? ⟨bx, 0, none⟩ = some (.pointer (some ⟨g, 0, none⟩)))
     (first | (with_reducible exact HS.out.cx) | go_keep)
     (first | (go_at_call 78; refine (is_calls _ _).mono ?_; rintro e w1 ⟨rfl, rfl⟩) | (go_at_call 76; refine Calls.mono (HS.out.take_is hs H0.out) ?_; rintro e w2 ⟨rfl, h2, hk2⟩; have n0_ := Aside0.mk (show SC w0 w Ws w2 g bx bn s ((i : Nat) : Int) _ from h2); clear HS h2 hk2; have HS := n0_; clear n0_))
    go_wp2_with fail
    go_region_held3 (fun w' => w'.cell? ⟨bx, 0, none⟩ = some (.pointer (some ⟨g, 0, none⟩)))
     (first | (with_reducible exact HS.out.cx) | go_keep)
     (first | (go_at_call 78; refine (is_calls _ _).mono ?_; rintro e w1 ⟨rfl, rfl⟩) | (go_at_call 76; refine Calls.mono (HS.out.take_is hs H1.out) ?_; rintro e w2 ⟨rfl, h2, hk2⟩; have n0_ := Aside0.mk (show SC w0 w Ws w2 g bx bn s ((i1 : Nat) : Int) _ from (by rw [hi1.out]; exact h2)); clear HS h2 hk2; have HS := n0_; clear n0_))
    have hcx := HS.out.cx
    have hca := HS.out.ca
    go_wp2_with (go_at_call 45; refine Calls.mono (HS.out.must hs (leading_ok w0 _ g s _ false) H2.out) ?_; rintro e w2 ⟨he, h2, hk2⟩; simp only [if_true, Bool.false_eq_true, if_false] at he h2; subst he; have n0_ := Aside0.mk h2; clear HS h2 hk2 hcx hca; have HS := n0_; clear n0_)
    exact ⟨rfl, rfl, HS.out⟩
  | false =>
   skip
   obtain ⟨b2, hb2⟩ : ∃ b, scTake s (i) pLeading = b := ⟨_, rfl⟩
   have H2 := Aside0.mk hb2
   cases b2 with
   | true =>
    have he : scNum s i = (true, scRun pDigit s 9 (i + 1), scVal s (scRun pDigit s 9 (i + 1) - (i)) (i) 0) := by simp [scNum, hb0, hb1, hb2]
    rw [he]
    clear hb0 he hb1 hb2
    obtain ⟨J, hJ⟩ : ∃ j, j = scRun pDigit s 9 (i + 1) := ⟨_, rfl⟩
    rw [← hJ]
    have HJ0 := Aside0.mk hJ
    clear hJ
    go_enter Tryd.func77, Tryd.ntmps77
    go_wp2_with fail
    go_region_held3 (fun w' => w'.cell? ⟨bx, 0, none⟩ = some (.pointer (some ⟨g, 0, none⟩)))
     (first | (with_reducible exact HS.out.cx) | go_keep)
     (first | (go_at_call 78; refine (is_calls _ _).mono ?_; rintro e w1 ⟨rfl, rfl⟩) | (go_at_call 76; refine Calls.mono (HS.out.take_is hs H0.out) ?_; rintro e w2 ⟨rfl, h2, hk2⟩; have n0_ := Aside0.mk (show SC w0 w Ws w2 g bx bn s ((i : Nat) : Int) _ from h2); clear HS h2 hk2; have HS := n0_; clear n0_))
    go_wp2_with fail
    go_region_held3 (fun w' => w'.cell? ⟨bx, 0, none⟩ = some (.pointer (some ⟨g, 0, none⟩)))
     (first | (with_reducible exact HS.out.cx) | go_keep)
     (first | (go_at_call 78; refine (is_calls _ _).mono ?_; rintro e w1 ⟨rfl, rfl⟩) | (go_at_call 76; refine Calls.mono (HS.out.take_is hs H1.out) ?_; rintro e w2 ⟨rfl, h2, hk2⟩; have n0_ := Aside0.mk (show SC w0 w Ws w2 g bx bn s ((i : Nat) : Int) _ from h2); clear HS h2 hk2; have HS := n0_; clear n0_))
    have hcx := HS.out.cx
    have hca := HS.out.ca
    go_wp2_with (go_at_call 45; refine Calls.mono (HS.out.must hs (leading_ok w0 _ g s _ false) H2.out) ?_; rintro e w2 ⟨he, h2, hk2⟩; simp only [if_true, Bool.false_eq_true, if_false] at he h2; subst he; have n0_ := Aside0.mk h2; clear HS h2 hk2 hcx hca; have HS := n0_; clear n0_)
    have hlt : i < s.size := scTake_lt H2.out
    go_loopg [28] 9 (fun kq v28 w' => ∃ j : Nat, Aside0 (j + kq = i + 10) ∧ Aside0 (scRun pDigit s kq j = J ∧ i < j) ∧ Aside0 (SC w0 w Ws w' g bx bn s (j : Int) (.int .i64 0)))
    case atStart => exact ⟨i + 1, ⟨by omega⟩, ⟨HJ0.out.symm, by omega⟩, HS⟩
    case round =>
     clear HS
     obtain ⟨j, HJ, HR, HS⟩ := hrel
     have hcx := HS.out.cx
     have hca := HS.out.ca
     have hj := HJ.out
     have hj2 := HR.out.2
     by_cases hk : gk = 0
     ·have hj3 : (j : Int) = i + 10 := by omega
      have e0 : J = j := by have h2 := HR.out.1; rw [hk] at h2; exact h2.symm
      subst hk
      subst e0
      go_wp2_with fail
      clear hj3
      have hcx := HS.out.cx
      have hca := HS.out.ca
      have hcs := HS.out.cs
      have F := Aside0.mk (scDigits hlt H2.out HJ0.out)
      have fj := F.out.1
      have fz := F.out.2.1
      have c1 : (0 : Int) ≤ (i : Int) := Int.natCast_nonneg _
      have c2 : (i : Int) ≤ (J : Int) := by omega
      have c3 : (0 : Int) ≤ (J : Int) := Int.natCast_nonneg _
      have c4 : (J : Int) ≤ (s.size : Int) := by omega
      have lx := blk_lt HS.out.X
      have lg := blk_lt HS.out.I.1
      go_region_held3 (fun w' => w'.cell? ⟨bx, 0, none⟩ = some (.pointer (some ⟨g, 0, none⟩)) ∧ w'.cell? ⟨g, 0, none⟩ = some (.string s) ∧ w'.cell? ⟨g, 1, none⟩ = some (.int .i64 J)) (first | (with_reducible exact SC.iterKeep HS.out _) | go_keep) (fail)
      have HQ := Aside0.mk (SC.iterStart HS.out (s.extract i J))
      obtain ⟨W1, hW1⟩ : ∃ W1, W1 = wr.drew.iter (s.extract i J) 0 := ⟨_, rfl⟩
      rw [← hW1] at HQ
      rw [← hW1]
      have hzz : wr.drew.heap.size = wr.heap.size := rfl
      obtain ⟨it, hit⟩ : ∃ it, it = wr.heap.size := ⟨_, rfl⟩
      have HZ := Aside0.mk (show Ws.heap.size ≤ it by rw [hit]; exact HS.out.K.1)
      rw [← hit] at HQ
      try rw [hzz]
      rw [← hit]
      clear hW1 hit hzz hcx hca hcs HS lx lg
      try clear hj3
      try clear hlt
      have HT := Aside0.mk (scText s i J (by omega) c4)
      obtain ⟨t, ht⟩ : ∃ t, t = s.extract i J := ⟨_, rfl⟩
      rw [← ht] at HQ HT
      clear ht
      go_wp2_with fail
      go_loopg [43] t.size (fun kq v43 w' => ∃ (pos : Nat) (acc : Int), Aside0 (pos + kq = t.size) ∧ Aside0 (SC w0 w Ws w' g bx bn s (J : Int) (.int .i64 acc)) ∧ Aside0 (w'.heap[it]? = some (.stringIter t pos)) ∧ Aside0 (0 ≤ acc ∧ acc < 10 ^ pos) ∧ Aside0 (scVal s kq (i + pos) acc = scVal s (J - i) i 0))
      case atStart => exact ⟨0, 0, ⟨by omega⟩, ⟨HQ.out.1⟩, ⟨HQ.out.2⟩, ⟨by decide⟩, ⟨by rw [HT.out.1]; rfl⟩⟩
      case round =>
       clear HQ
       obtain ⟨pos, acc, HP, HS, HH, HA, HV⟩ := hrel
       have hp := HP.out
       have ha := HA.out.1
       by_cases hk : gk = 0
       ·subst hk
        have hV : acc = scVal s (J - i) i 0 := HV.out
        have hb10 := scPow (show pos ≤ 10 by have := HT.out.1; have := F.out.2.2.1; omega) HA.out.2
        have hnx : ∀ ty, (Instr.next (.pointer (some ⟨it, 0, none⟩)) true ty).run Tryd.prog wr = _ := fun ty => Lib.run_next_end_at wr it t pos ty HH.out (by omega)
        have hcn := HS.out.cn
        have hfn := HS.out.fn
        go_wp2_with fail
        go_end0
        exact ⟨by simp, HS.out.setN _⟩
       ·obtain ⟨k1, rfl⟩ : ∃ m, gk = m + 1 := ⟨gk - 1, by omega⟩
        have hlt1 : pos < t.size := by omega
        obtain ⟨c, hc⟩ : ∃ c, c = bt s ((i + pos : Nat) : Int) := ⟨_, rfl⟩
        have hd := F.out.2.2.2 (i + pos) (by omega) (by have := HT.out.1; omega)
        rw [← hc] at hd
        have he := (HT.out.2 pos hlt1).trans hc.symm
        have hnx : ∀ ty, (Instr.next (.pointer (some ⟨it, 0, none⟩)) true ty).run Tryd.prog wr = .ok (.tuple #[.bool true, .int .i64 (pos : Int), .int .i32 c]) (wr.iterAt it t (pos + 1)) := fun ty => by rw [Lib.run_next_ascii_at wr it t pos ty HH.out hlt1 (by omega), he]
        have HS1 := Aside0.mk (HS.out.iterAt (t' := t) (pos + 1) HH.out HZ.out HW0.out)
        have HH1 := Aside0.mk (Lib.iterAt_heap wr it t pos (pos + 1) HH.out)
        have hcn := HS1.out.cn
        have hfn := HS1.out.fn
        have hb10 := scPow (show pos ≤ 10 by have := HT.out.1; have := F.out.2.2.1; omega) HA.out.2
        have hc1 := hd.1
        have hc2 := hd.2
        have HC := Aside0.mk hc
        clear he hd hc
        have hw1 : wrap32 (c - 48) = c - 48 := by unfold wrap32; omega
        have hw2 : wrap64 (c - 48) = c - 48 := by unfold wrap64; omega
        have hw3 : wrap64 (10 * acc + (c - 48)) = 10 * acc + (c - 48) := by unfold wrap64; omega
        go_wp2_with fail
        go_roundg k1
        case measure => omega
        case rel =>
         refine ⟨pos + 1, 10 * acc + (c - 48), ⟨by omega⟩, ⟨?_⟩, ⟨?_⟩, ⟨?_⟩, ⟨?_⟩⟩
         ·try simp only [hw1, hw2, hw3]
          exact HS1.out.setN _
         ·exact (Below.heap_setCell _ _ _ _ (fun e => by have h1 := HS1.out.N; rw [show bn = it from e.symm, HH1.out] at h1; exact absurd h1 (by simp))).trans HH1.out
         ·rw [Int.pow_succ]; have := HA.out.2; exact ⟨by omega, by omega⟩
         ·have h2 := HV.out; rw [scVal, ← HC.out] at h2; exact h2
     ·obtain ⟨k1, rfl⟩ : ∃ m, gk = m + 1 := ⟨gk - 1, by omega⟩
      obtain ⟨b3, hb3⟩ : ∃ b, scTake s j pDigit = b := ⟨_, rfl⟩
      have H3 := Aside0.mk hb3
      have hj3 : (j : Int) < i + 10 := by omega
      cases b3 with
      | true =>
       go_wp2_with (go_at_call 76; refine Calls.mono (HS.out.take hs (digit_ok w0 _ g s _ false) H3.out) ?_; rintro e w3 ⟨rfl, h2, hk2⟩; have n0_ := Aside0.mk (show SC w0 w Ws w3 g bx bn s ((j + 1 : Nat) : Int) _ from h2); clear HS h2 hk2 hcx hca; have HS := n0_; clear n0_)
       go_roundg k1
       case measure => omega
       case rel => exact ⟨j + 1, ⟨by omega⟩, ⟨by have h2 := HR.out.1; rw [scRun, if_pos H3.out] at h2; exact h2, by omega⟩, HS⟩
      | false =>
       have e0 : J = j := by have h2 := HR.out.1; rw [scRun, if_neg (by rw [H3.out]; simp)] at h2; exact h2.symm
       subst e0
       go_wp2_with (go_at_call 76; refine Calls.mono (HS.out.take hs (digit_ok w0 _ g s _ false) H3.out) ?_; rintro e w3 ⟨rfl, h2, hk2⟩; have n0_ := Aside0.mk (show SC w0 w Ws w3 g bx bn s ((J : Nat) : Int) _ from h2); clear HS h2 hk2 hcx hca; have HS := n0_; clear n0_)
       have hcx := HS.out.cx
       have hca := HS.out.ca
       have hcs := HS.out.cs
       have F := Aside0.mk (scDigits hlt H2.out HJ0.out)
       have fj := F.out.1
       have fz := F.out.2.1
       have c1 : (0 : Int) ≤ (i : Int) := Int.natCast_nonneg _
       have c2 : (i : Int) ≤ (J : Int) := by omega
       have c3 : (0 : Int) ≤ (J : Int) := Int.natCast_nonneg _
       have c4 : (J : Int) ≤ (s.size : Int) := by omega
       have lx := blk_lt HS.out.X
       have lg := blk_lt HS.out.I.1
       go_region_held3 (fun w' => w'.cell? ⟨bx, 0, none⟩ = some (.pointer (some ⟨g, 0, none⟩)) ∧ w'.cell? ⟨g, 0, none⟩ = some (.string s) ∧ w'.cell? ⟨g, 1, none⟩ = some (.int .i64 J)) (first | (with_reducible exact SC.iterKeep HS.out _) | go_keep) (fail)
       have HQ := Aside0.mk (SC.iterStart HS.out (s.extract i J))
       obtain ⟨W1, hW1⟩ : ∃ W1, W1 = w3.drew.iter (s.extract i J) 0 := ⟨_, rfl⟩
       rw [← hW1] at HQ
       rw [← hW1]
       have hzz : w3.drew.heap.size = w3.heap.size := rfl
       obtain ⟨it, hit⟩ : ∃ it, it = w3.heap.size := ⟨_, rfl⟩
       have HZ := Aside0.mk (show Ws.heap.size ≤ it by rw [hit]; exact HS.out.K.1)
       rw [← hit] at HQ
       try rw [hzz]
       rw [← hit]
       clear hW1 hit hzz hcx hca hcs HS lx lg
       try clear hj3
       try clear hlt
       have HT := Aside0.mk (scText s i J (by omega) c4)
       obtain ⟨t, ht⟩ : ∃ t, t = s.extract i J := ⟨_, rfl⟩
       rw [← ht] at HQ HT
       clear ht
       go_wp2_with fail
       go_loopg [43] t.size (fun kq v43 w' => ∃ (pos : Nat) (acc : Int), Aside0 (pos + kq = t.size) ∧ Aside0 (SC w0 w Ws w' g bx bn s (J : Int) (.int .i64 acc)) ∧ Aside0 (w'.heap[it]? = some (.stringIter t pos)) ∧ Aside0 (0 ≤ acc ∧ acc < 10 ^ pos) ∧ Aside0 (scVal s kq (i + pos) acc = scVal s (J - i) i 0))
       case atStart => exact ⟨0, 0, ⟨by omega⟩, ⟨HQ.out.1⟩, ⟨HQ.out.2⟩, ⟨by decide⟩, ⟨by rw [HT.out.1]; rfl⟩⟩
       case round =>
        clear HQ
        obtain ⟨pos, acc, HP, HS, HH, HA, HV⟩ := hrel
        have hp := HP.out
        have ha := HA.out.1
        by_cases hk : gk = 0
        ·subst hk
         have hV : acc = scVal s (J - i) i 0 := HV.out
         have hb10 := scPow (show pos ≤ 10 by have := HT.out.1; have := F.out.2.2.1; omega) HA.out.2
         have hnx : ∀ ty, (Instr.next (.pointer (some ⟨it, 0, none⟩)) true ty).run Tryd.prog wr = _ := fun ty => Lib.run_next_end_at wr it t pos ty HH.out (by omega)
         have hcn := HS.out.cn
         have hfn := HS.out.fn
         go_wp2_with fail
         go_end0
         exact ⟨by simp, HS.out.setN _⟩
        ·obtain ⟨k1, rfl⟩ : ∃ m, gk = m + 1 := ⟨gk - 1, by omega⟩
         have hlt1 : pos < t.size := by omega
         obtain ⟨c, hc⟩ : ∃ c, c = bt s ((i + pos : Nat) : Int) := ⟨_, rfl⟩
         have hd := F.out.2.2.2 (i + pos) (by omega) (by have := HT.out.1; omega)
         rw [← hc] at hd
         have he := (HT.out.2 pos hlt1).trans hc.symm
         have hnx : ∀ ty, (Instr.next (.pointer (some ⟨it, 0, none⟩)) true ty).run Tryd.prog wr = .ok (.tuple #[.bool true, .int .i64 (pos : Int), .int .i32 c]) (wr.iterAt it t (pos + 1)) := fun ty => by rw [Lib.run_next_ascii_at wr it t pos ty HH.out hlt1 (by omega), he]
         have HS1 := Aside0.mk (HS.out.iterAt (t' := t) (pos + 1) HH.out HZ.out HW0.out)
         have HH1 := Aside0.mk (Lib.iterAt_heap wr it t pos (pos + 1) HH.out)
         have hcn := HS1.out.cn
         have hfn := HS1.out.fn
         have hb10 := scPow (show pos ≤ 10 by have := HT.out.1; have := F.out.2.2.1; omega) HA.out.2
         have hc1 := hd.1
         have hc2 := hd.2
         have HC := Aside0.mk hc
         clear he hd hc
         have hw1 : wrap32 (c - 48) = c - 48 := by unfold wrap32; omega
         have hw2 : wrap64 (c - 48) = c - 48 := by unfold wrap64; omega
         have hw3 : wrap64 (10 * acc + (c - 48)) = 10 * acc + (c - 48) := by unfold wrap64; omega
         go_wp2_with fail
         go_roundg k1
         case measure => omega
         case rel =>
          refine ⟨pos + 1, 10 * acc + (c - 48), ⟨by omega⟩, ⟨?_⟩, ⟨?_⟩, ⟨?_⟩, ⟨?_⟩⟩
          ·try simp only [hw1, hw2, hw3]
           exact HS1.out.setN _
          ·exact (Below.heap_setCell _ _ _ _ (fun e => by have h1 := HS1.out.N; rw [show bn = it from e.symm, HH1.out] at h1; exact absurd h1 (by simp))).trans HH1.out
          ·rw [Int.pow_succ]; have := HA.out.2; exact ⟨by omega, by omega⟩
          ·have h2 := HV.out; rw [scVal, ← HC.out] at h2; exact h2
   | false =>
    have he : scNum s i = (false, i, 0) := by simp [scNum, hb0, hb1, hb2]
    rw [he]
    clear hb0 he hb1 hb2
    go_enter Tryd.func77, Tryd.ntmps77
    go_wp2_with fail
    go_region_held3 (fun w' => w'.cell? ⟨bx, 0, none⟩ = some (.pointer (some ⟨g, 0, none⟩)))
     (first | (with_reducible exact HS.out.cx) | go_keep)
     (first | (go_at_call 78; refine (is_calls _ _).mono ?_; rintro e w1 ⟨rfl, rfl⟩) | (go_at_call 76; refine Calls.mono (HS.out.take_is hs H0.out) ?_; rintro e w2 ⟨rfl, h2, hk2⟩; have n0_ := Aside0.mk (show SC w0 w Ws w2 g bx bn s ((i : Nat) : Int) _ from h2); clear HS h2 hk2; have HS := n0_; clear n0_))
    go_wp2_with fail
    go_region_held3 (fun w' => w'.cell? ⟨bx, 0, none⟩ = some (.pointer (some ⟨g, 0, none⟩)))
     (first | (with_reducible exact HS.out.cx) | go_keep)
     (first | (go_at_call 78; refine (is_calls _ _).mono ?_; rintro e w1 ⟨rfl, rfl⟩) | (go_at_call 76; refine Calls.mono (HS.out.take_is hs H1.out) ?_; rintro e w2 ⟨rfl, h2, hk2⟩; have n0_ := Aside0.mk (show SC w0 w Ws w2 g bx bn s ((i : Nat) : Int) _ from h2); clear HS h2 hk2; have HS := n0_; clear n0_))
    have hcx := HS.out.cx
    have hca := HS.out.ca
    go_wp2_with (go_at_call 45; refine Calls.mono (HS.out.must hs (leading_ok w0 _ g s _ false) H2.out) ?_; rintro e w2 ⟨he, h2, hk2⟩; simp only [if_true, Bool.false_eq_true, if_false] at he h2; subst he; have n0_ := Aside0.mk h2; clear HS h2 hk2 hcx hca; have HS := n0_; clear n0_)
    exact ⟨rfl, rfl, HS.out⟩
end Go.Proofs.YtlchefonlfokgaaDoor.Q
end
section
namespace Go.Proofs.YtlchefonlfokgaaDoor.Q
open Go.RowKit Go.Proofs.YtlchefonlfokgaaDoorW.PrintWords Go.Proofs.YtlchefonlfokgaaDoorW.PrintLast Go.Proofs.YtlchefonlfokgaaDoorW.PrintMore
set_option maxRecDepth 100000
theorem guard_sc {w0 w2 : World} {g bx bn : Nat} {s : ByteArray} {i : Int} {j : Int} {f : Nat} {cap : Array Value} {ok : Bool} {v0 v1 : Value} (h : SC w0 w2 w2 w2 g bx bn s i v0) (hx : bx < w2.heap.size)
  (hcf : ∀ (args : Array Value) (W : World), (callFunc f args).run Tryd.prog W = .ok (.enter f args) W)
  (hscan : ∀ W, Below w2.heap.size w2 W → SC w0 w2 W W g bx bn s i v0 → Calls Tryd.prog f cap W fun e W' => e = (if ok then .returned (.tuple #[]) else .panicked scFail) ∧ SC w0 w2 W W' g bx bn s j v1) :
  Calls Tryd.prog 43 #[.pointer (some ⟨g, 0, none⟩), .func (.func f) #[] cap] w2 fun e w' => e = .returned (.bool ok) ∧ IsS77 w0 w' g s j (!ok) ∧ Below w0.heap.size w0 w' ∧ w2.heap.size ≤ w'.heap.size ∧ w'.heap[bn]? = some (.cells #[v1] 3 (0, 0)) ∧ w'.heap[bx]? = some (.cells #[.pointer (some ⟨g, 0, none⟩)] 45 (0, 0)) ∧ ∀ k, k < w2.heap.size → k ≠ g → k ≠ bn → w'.heap[k]? = w2.heap[k]? := by
 refine (guard_any w0 w2 g s i j f cap ok (fun W' => ∃ Ws, Below w2.heap.size w2 Ws ∧ SC w0 w2 Ws W' g bx bn s j v1) h.I h.B ⟨hcf, fun W hW => ?_⟩ (fun W ⟨Ws, _, hS⟩ => ⟨hS.I, hS.B⟩)).mono ?_
 ·have hk : ∀ {q : Nat} {o : Obj}, w2.heap[q]? = some o → W.heap[q]? = some o := fun hq => (hW.block _ (blk_lt hq)).trans hq
  have h1 : SC w0 w2 W W g bx bn s i v0 := ⟨⟨hk h.I.1, h.I.2⟩, below_weaken h.B h.B.size hW, hk h.X, hk h.N, ⟨Nat.le_refl _, fun _ _ _ _ => rfl⟩, h.A⟩
  refine (hscan W hW h1).mono ?_
  rintro e W' ⟨he, hS⟩
  exact ⟨he, hS.K.1, fun k h2 h3 => hS.K.2 k h3 (by have := h.A; omega) (by have := h.A; omega), W, hW, hS⟩
 ·rintro e w' ⟨he, hI, hB, hz, W1, ⟨Ws, hW, hS⟩, hk⟩
  refine ⟨he, hI, hB, hz, (hk bn h.A.2.2.2.2.2 h.A.2.1).trans hS.N, (hk bx hx h.A.1).trans hS.X, fun k h1 h2 h3 => ?_⟩
  rw [hk k h1 h2, hS.K.2 k (Nat.lt_of_lt_of_le h1 hW.size) h2 h3, hW.block k h1]
theorem number_ok (w0 w : World) (g : Nat) (s : ByteArray) (i : Nat) (hI : IsS77 w0 w g s (i : Int) false) (hB : Below w0.heap.size w0 w) (hs : s.size ≤ 4611686018427387904) :
  Calls Tryd.prog 47 #[.pointer (some ⟨g, 0, none⟩)] w fun e w' => e = .returned (.int .i64 (if (scNum s i).1 then (scNum s i).2.2 else 0)) ∧ IsS77 w0 w' g s ((scNum s i).2.1 : Int) (!(scNum s i).1) ∧ Below w0.heap.size w0 w' ∧ KeepBut w w' g none := by
 have hmf : ∀ (fn : Fn) (first cap : Array Value) (w : World), (Instr.makeFunc fn first cap).run Tryd.prog w = .ok (.func fn first cap) w := fun _ _ _ _ => rfl
 obtain ⟨w2, hw2⟩ : ∃ w2, w2 = (w.alloc (.cells #[.pointer (some ⟨g, 0, none⟩)] 45)).alloc (.cells #[.int .i64 0] 3) := ⟨_, rfl⟩
 have hz2 : w2.heap.size = w.heap.size + 2 := by rw [hw2]; simp
 have lg := blk_lt hI.1
 have hz0 := hB.size
 have hSC : SC w0 w2 w2 w2 g w.heap.size (w.heap.size + 1) s (i : Int) (.int .i64 0) := by
  refine ⟨by rw [hw2]; exact (hI.alloc _).alloc _, by rw [hw2]; exact (hB.alloc hz0 _).alloc (by rw [World.size_alloc]; omega) _, by rw [hw2]; exact blk_alloc (blk_new w _) _, ?_, ⟨Nat.le_refl _, fun _ _ _ _ => rfl⟩, by omega⟩
  have h := blk_new (w.alloc (.cells #[.pointer (some ⟨g, 0, none⟩)] 45)) (.cells #[.int .i64 0] 3)
  rw [World.size_alloc] at h
  rw [hw2]
  exact h
 have HG := Aside0.mk (guard_sc (j := ((scNum s i).2.1 : Int)) (v1 := .int .i64 (scNum s i).2.2) (ok := (scNum s i).1) (f := 77) (cap := #[.pointer (some ⟨w.heap.size, 0, none⟩), .pointer (some ⟨w.heap.size + 1, 0, none⟩)]) hSC (by omega) (fun _ _ => rfl) (fun W hW hS => num1 w0 w2 W W g _ _ s i hs (by have := hW.size; omega) hS))
 obtain ⟨r, hr⟩ : ∃ r, r = scNum s i := ⟨_, rfl⟩
 rw [← hr] at HG
 rw [← hr]
 have HK0 := Aside0.mk (show ∀ k, k < w.heap.size → w2.heap[k]? = w.heap[k]? from fun k hk => by rw [hw2, Below.heap_alloc _ _ _ (by rw [World.size_alloc]; omega), Below.heap_alloc _ _ _ hk])
 have HW2 := Aside0.mk hw2
 have HZ2 := Aside0.mk hz2
 clear hI hB hSC hr hw2 hz2
 obtain ⟨ok, j, v⟩ := r
 have HH : ∀ (e : Ending) (w' : World), (e = .returned (.bool ok) ∧ IsS77 w0 w' g s (j : Int) (!ok) ∧ Below w0.heap.size w0 w' ∧ w2.heap.size ≤ w'.heap.size ∧ w'.heap[w.heap.size + 1]? = some (.cells #[.int .i64 v] 3 (0, 0)) ∧ w'.heap[w.heap.size]? = some (.cells #[.pointer (some ⟨g, 0, none⟩)] 45 (0, 0)) ∧ ∀ k, k < w2.heap.size → k ≠ g → k ≠ w.heap.size + 1 → w'.heap[k]? = w2.heap[k]?) →
   e = .returned (.bool ok) ∧ IsS77 w0 w' g s (j : Int) (!ok) ∧ Below w0.heap.size w0 w' ∧ KeepBut w w' g none ∧ w'.cell? ⟨w.heap.size + 1, 0, none⟩ = some (.int .i64 v) ∧ w'.cell? ⟨w.heap.size, 0, none⟩ = some (.pointer (some ⟨g, 0, none⟩)) := fun e w' ⟨h1, h2, h3, h4, h5, h6, h7⟩ =>
  ⟨h1, h2, h3, ⟨by have := HZ2.out; omega, fun k hk hg _ => (h7 k (by have := HZ2.out; omega) hg (by omega)).trans (HK0.out k hk)⟩, blk_cell h5 0, blk_cell h6 0⟩
 have HG2 := Aside0.mk (HG.out.mono HH)
 clear HG HH HK0 HZ2
 cases ok with
 | true =>
  go_enter Tryd.func47, Tryd.ntmps47
  go_wp2_with (rw [← HW2.out]; refine Calls.mono HG2.out ?_; rintro e w3 ⟨rfl, hI3, hB3, hK3, hcn, hcx⟩; have HI := Aside0.mk hI3; have HB := Aside0.mk hB3; have HK := Aside0.mk hK3; clear HG2 hI3 hB3 hK3)
  go_ret
  exact ⟨by simp, HI.out, HB.out, HK.out⟩
 | false =>
  go_enter Tryd.func47, Tryd.ntmps47
  go_wp2_with (rw [← HW2.out]; refine Calls.mono HG2.out ?_; rintro e w3 ⟨rfl, hI3, hB3, hK3, hcn, hcx⟩; have HI := Aside0.mk hI3; have HB := Aside0.mk hB3; have HK := Aside0.mk hK3; clear HG2 hI3 hB3 hK3)
  go_ret
  exact ⟨by simp, HI.out, HB.out, HK.out⟩
theorem number_bad (w0 w : World) (g : Nat) (s : ByteArray) (i : Int) (hI : IsS77 w0 w g s i true) (hB : Below w0.heap.size w0 w) :
  Calls Tryd.prog 47 #[.pointer (some ⟨g, 0, none⟩)] w fun e w' => e = .returned (.int .i64 0) ∧ IsS77 w0 w' g s i true ∧ Below w0.heap.size w0 w' ∧ KeepBut w w' g none := by
 have hmf : ∀ (fn : Fn) (first cap : Array Value) (w : World), (Instr.makeFunc fn first cap).run Tryd.prog w = .ok (.func fn first cap) w := fun _ _ _ _ => rfl
 obtain ⟨w2, hw2⟩ : ∃ w2, w2 = (w.alloc (.cells #[.pointer (some ⟨g, 0, none⟩)] 45)).alloc (.cells #[.int .i64 0] 3) := ⟨_, rfl⟩
 have hb2 : Below w.heap.size w w2 := by rw [hw2]; exact ((Below.refl _ w).alloc (Nat.le_refl _) _).alloc (Nat.le_of_lt (by rw [World.size_alloc]; exact Nat.lt_succ_self _)) _
 have HG := Aside0.mk (guard_failed w0 w2 g s i 77 #[.pointer (some ⟨w.heap.size, 0, none⟩), .pointer (some ⟨w.heap.size + 1, 0, none⟩)] (hI.below hb2) (below_weaken hB hB.size hb2))
 have HW2 := Aside0.mk hw2
 have HB2 := Aside0.mk hb2
 clear hI hB hw2 hb2
 go_enter Tryd.func47, Tryd.ntmps47
 go_wp2_with (rw [← HW2.out]; refine Calls.mono HG.out ?_; rintro e w3 ⟨rfl, hI3, hB3, hK3⟩; have HI := Aside0.mk hI3; have HB := Aside0.mk hB3; have HK := Aside0.mk (KeepBut.of_below (below_then HB2.out HB2.out.size hK3) g none); clear HG hI3 hB3 hK3)
 go_ret
 exact ⟨rfl, HI.out, HB.out, HK.out⟩
end Go.Proofs.YtlchefonlfokgaaDoor.Q
end
