/- What is proved: the law PrecedenceSorts, walked by hand: it returns true. -/
import Derived.Test.YtopfjjdkffdjpaaQx6
import Derived.Test.YtopfjjdkffdjpaaQx5
import Derived.Test.YtopfjjdkffdjpaaQx4
import Derived.Test.YtopfjjdkffdjpaaPP
import Derived.Deep.RegionHeld3
import Derived.Deep.DrawnRows
import Derived.Deep.QuietTactic
import Derived.BigQuiet
import Derived.OpenShut
import Derived.Deep.DeepCutAuto
namespace Go.Proofs.Ytopfjjdkffdjpaa.Q
open Go.RowKit Go.Proofs.YtopfjjdkffdjpaaW.PrintWords Go.Proofs.YtopfjjdkffdjpaaW.PrintLast Go.Proofs.YtopfjjdkffdjpaaW.PrintMore Go.Proofs.Ytopfjjdkffdjpaa.Srt
set_option linter.unusedVariables false
set_option linter.unusedSimpArgs false
attribute [local go_sem ↓] Go.wp_at_zero Go.wp_at_succ

theorem awake_yes : ∃ k, computuslaw20_awake.f k = some true := ⟨30, by kernel_rfl⟩
theorem awake_call (w : World) : Calls Try.prog 8 #[] w fun e w' => e = .returned (.bool true) ∧ Below w.heap.size w w' := by
  obtain ⟨k, h⟩ := awake_yes
  exact computuslaw20_awake.calls k true w h
/-- The cells of a row of candidates in block g. -/
structure Row (g : Nat) (L : List Cd) (w : World) : Prop where
  at_ : ∀ i, (h : i < L.length) → w.cell? ⟨g, i * 4, none⟩ = some (.int .i64 (L[i]).f0) ∧ w.cell? ⟨g, i * 4 + 1, none⟩ = some (.int .i64 (L[i]).f1) ∧ w.cell? ⟨g, i * 4 + 2, none⟩ = some (.int .i64 (L[i]).f2) ∧ w.cell? ⟨g, i * 4 + 3, none⟩ = some (.string (L[i]).f3)
theorem Row.step {g : Nat} {L : List Cd} {w w1 : World} (h : Row g L w) (hb : Below w.heap.size w w1) : Row g L w1 := ⟨fun i hi => by
  obtain ⟨c1, c2, c3, c4⟩ := h.at_ i hi
  exact ⟨(hb.cell (World.block_lt_of_cell? w _ c1)).trans c1, (hb.cell (World.block_lt_of_cell? w _ c2)).trans c2, (hb.cell (World.block_lt_of_cell? w _ c3)).trans c3, (hb.cell (World.block_lt_of_cell? w _ c4)).trans c4⟩⟩
/-- An owned row's value and cells. -/
theorem row_of {base : Nat} {ok : Nat → Prop} {v : Value} {L : List Cd} {w : World} (h : Kd.R k28 28 w base ok v L) (h0 : 0 < L.length) : ∃ g c, v = .slice (some ⟨g, 0, none⟩) L.length c ∧ L.length ≤ c ∧ Row g L w := by
  obtain ⟨A, c, hv, hc, hC⟩ := Kd.R_reads h
  obtain ⟨_, inner, ho, hr⟩ := h
  rcases ho.2 with ⟨rfl, he⟩ | ⟨g, cap, cur, rfl, hg, hh, h1, h2, h3, h4⟩
  · omega
  · injection hv with e1 e2 e3
    subst e1
    subst e3
    refine ⟨g, cap, rfl, hc, ⟨fun i hi => ?_⟩⟩
    obtain ⟨ad, e, x1, x2, x3, x4⟩ := at_T28 hC (i : Int) (by omega) (by omega)
    injection e with e
    subst e
    rw [rdC L i hi] at x1 x2 x3 x4
    have ea : (⟨g, 0, none⟩ : Addr).add (i * 4) = ⟨g, i * 4, none⟩ := by rw [Addr.add_lit, Nat.zero_add]
    rw [Int.toNat_natCast, ea] at x1 x2 x3 x4
    exact ⟨x1, x2, x3, x4⟩
theorem fwd_call (A0 : Option Addr) (c0 : Nat) (l : List Rf) (w : World) (hr : Kd.C k44 w A0 l.length l) (hc : l.length ≤ c0) (hl : l.length ≤ 1000) :
    Calls Try.prog 10 #[.slice A0 l.length c0] w fun e w' => ∃ v, e = .returned v ∧ Kd.R k28 28 w' w.heap.size (fun _ => True) v (l.map fw) ∧ Below w.heap.size w w' := by
  obtain ⟨k, h⟩ := (fwd_f l hl).rounds
  exact computuslaw20_forward.calls k A0 c0 l _ w hr hc h
theorem sort_call (A0 : Option Addr) (c0 : Nat) (l : List Cd) (w : World) (hr : Kd.C k28 w A0 l.length l) (hc : l.length ≤ c0) (hl : l.length ≤ 1000) :
    Calls Try.prog 9 #[.slice A0 l.length c0] w fun e w' => ∃ v, e = .returned v ∧ Kd.R k28 28 w' w.heap.size (fun _ => True) v (isort lessB l) ∧ Below w.heap.size w w' :=
  precedence_Sort.calls A0 c0 l _ w hr hc (by unfold precedence_Sort.f; rw [if_pos (by omega)])
theorem first_call (A0 : Option Addr) (c0 : Nat) (l : List Cd) (w : World) (hr : Kd.C k28 w A0 l.length l) (hc : l.length ≤ c0) (hl : l.length ≤ 1000) (h0 : l ≠ []) :
    Calls Try.prog 11 #[.slice A0 l.length c0] w fun e w' => (∃ b : Cd, b = (isort lessB l).headD z28 ∧ e = .returned (.tuple #[.agg #[.int .i64 b.f0, .int .i64 b.f1, .int .i64 b.f2, .string b.f3], .bool true])) ∧ Below w.heap.size w w' := by
  obtain ⟨k, h⟩ := (first_f l hl h0).rounds
  refine (precedence_First.calls k A0 c0 l _ _ _ _ _ w hr hc h).mono ?_
  rintro e w' he
  exact ⟨⟨_, rfl, he.1⟩, he.2⟩
/-- An owned row of candidates, as it is read. -/
theorem own_at {base : Nat} {ok : Nat → Prop} {v : Value} {L : List Cd} {w : World} (h : Kd.R k28 28 w base ok v L) (h0 : 0 < L.length) : ∃ g c, v = .slice (some ⟨g, 0, none⟩) L.length c ∧ L.length ≤ c ∧ Row g L w ∧ Kd.C k28 w (some ⟨g, 0, none⟩) L.length L := by
  obtain ⟨g, c, hv, hc, hR⟩ := row_of h h0
  obtain ⟨A, c2, hv2, hc2, hC⟩ := Kd.R_reads h
  rw [hv] at hv2
  injection hv2 with e1 e2 e3
  subst e1
  exact ⟨g, c, hv, hc, hR, hC⟩
theorem fwdn (A0 : Option Addr) (c0 n : Nat) (l : List Rf) (w : World) (hr : Kd.C k44 w A0 n l) (hn : n = l.length ∧ n ≤ c0 ∧ n ≤ 60 ∧ 0 < n) :
    Calls Try.prog 10 #[.slice A0 n c0] w fun e w' => ∃ g c, e = .returned (.slice (some ⟨g, 0, none⟩) n c) ∧ n ≤ c ∧ Row g (l.map fw) w' ∧ Kd.C k28 w' (some ⟨g, 0, none⟩) n (l.map fw) ∧ Below w.heap.size w w' := by
  obtain ⟨hn, hc, hl, h0⟩ := hn
  subst hn
  refine (fwd_call A0 c0 l w hr hc (by omega)).mono ?_
  rintro e w' ⟨v, rfl, hR, hb⟩
  obtain ⟨g, c, rfl, h1, h2, h3⟩ := own_at hR (by rw [List.length_map]; omega)
  rw [List.length_map] at h1 h3 ⊢
  exact ⟨g, c, rfl, h1, h2, h3, hb⟩
theorem sortn (g c n : Nat) (l : List Cd) (w : World) (hr : Kd.C k28 w (some ⟨g, 0, none⟩) n l) (hn : n = l.length ∧ n ≤ c ∧ n ≤ 60 ∧ 0 < n) :
    Calls Try.prog 9 #[.slice (some ⟨g, 0, none⟩) n c] w fun e w' => ∃ g2 c2, e = .returned (.slice (some ⟨g2, 0, none⟩) n c2) ∧ Row g2 (isort lessB l) w' ∧ Below w.heap.size w w' := by
  obtain ⟨hn, hc, hl, h0⟩ := hn
  subst hn
  refine (sort_call _ c l w hr hc (by omega)).mono ?_
  rintro e w' ⟨v, rfl, hR, hb⟩
  obtain ⟨g2, c2, rfl, h1, h2, h3⟩ := own_at hR (by rw [length_isort]; omega)
  rw [length_isort]
  exact ⟨g2, c2, rfl, h2, hb⟩
theorem firstn (g c n : Nat) (l : List Cd) (w : World) (hr : Kd.C k28 w (some ⟨g, 0, none⟩) n l) (hn : n = l.length ∧ n ≤ c ∧ n ≤ 60 ∧ 0 < n) (b : Cd) (hb : b = (isort lessB l).headD z28) :
    Calls Try.prog 11 #[.slice (some ⟨g, 0, none⟩) n c] w fun e w' => e = .returned (.tuple #[.agg #[.int .i64 b.f0, .int .i64 b.f1, .int .i64 b.f2, .string b.f3], .bool true]) ∧ Below w.heap.size w w' := by
  obtain ⟨hn, hc, hl, h0⟩ := hn
  subst hn
  refine (first_call _ c l w hr hc (by omega) (fun e => by rw [e] at h0; simp at h0)).mono ?_
  rintro e w' ⟨⟨b2, e1, e2⟩, h⟩
  rw [e2, hb, e1]
  exact ⟨rfl, h⟩
/-- Four cells of a block just made hold a candidate. -/
theorem row_new (b : Cd) (w : World) : Row w.heap.size [b] (w.alloc (.cells #[.int .i64 b.f0, .int .i64 b.f1, .int .i64 b.f2, .string b.f3] 28)) := by
  refine ⟨fun i hi => ?_⟩
  have : i = 0 := by simp at hi; omega
  subst this
  have e : ∀ j v, (#[Value.int .i64 b.f0, .int .i64 b.f1, .int .i64 b.f2, .string b.f3] : Array Value)[j]? = some v → (w.alloc (.cells #[.int .i64 b.f0, .int .i64 b.f1, .int .i64 b.f2, .string b.f3] 28)).cell? ⟨w.heap.size, j, none⟩ = some v := fun j v hj => by
    rw [World.cell?_alloc_new]
    exact hj
  exact ⟨e 0 _ rfl, e 1 _ rfl, e 2 _ rfl, e 3 _ rfl⟩
theorem below_new (w : World) (o : Obj) : Below w.heap.size w (w.alloc o) := (Below.refl _ w).alloc (Nat.le_refl _) o
theorem Row.hd {g : Nat} {L : List Cd} {w : World} {b : Cd} (h : Row g L w) (h0 : 0 < L.length) (hb : b = L.headD z28) : w.cell? ⟨g, 0, none⟩ = some (.int .i64 b.f0) ∧ w.cell? ⟨g, 1, none⟩ = some (.int .i64 b.f1) ∧ w.cell? ⟨g, 2, none⟩ = some (.int .i64 b.f2) ∧ w.cell? ⟨g, 3, none⟩ = some (.string b.f3) := by
  have e : L[0] = b := by
    cases L with
    | nil => simp at h0
    | cons x l => exact hb.symm
  have := h.at_ 0 h0
  rw [e] at this
  exact this
theorem Row.drewN {g : Nat} {L : List Cd} {w : World} (h : Row g L w) (n : Nat) : Row g L (w.drewN n) := ⟨fun i hi => h.at_ i hi⟩
theorem below_drewN {B : Nat} {a w : World} (h : Below B a w) (n : Nat) : Below B a (w.drewN n) := ⟨h.os, h.tape, h.output, h.size, h.block⟩
/-- Candidates compared, field by field. -/
def eqC (x y : Cd) : Bool := x.f0 == y.f0 && (x.f1 == y.f1 && (x.f2 == y.f2 && (x.f3.toList == y.f3.toList)))
theorem count_step (e : Cd → Bool) (L : List Cd) (i : Nat) (hi : i < L.length) : (L.take (i + 1)).countP e = (L.take i).countP e + (if e L[i] = true then 1 else 0) := by
  rw [List.take_succ_eq_append_getElem hi, List.countP_append, List.countP_cons, List.countP_nil, Nat.zero_add]
/-- What a row's neighbours are, where the row is sorted. -/
theorem sorted_at (l : List Cd) (i : Nat) (h0 : 0 < i) (hi : i < (isort lessB l).length) : lessB (isort lessB l)[i] (isort lessB l)[i - 1] = false := by
  have h := isort_srtd wo_less l
  unfold Srtd at h
  rw [List.pairwise_iff_getElem] at h
  exact h (i - 1) i (by omega) hi (by omega)
theorem below_cells {B : Nat} {a b : World} (h : Below B a b) : (∀ g j, g < B → b.cell? ⟨g, j, none⟩ = a.cell? ⟨g, j, none⟩) ∧ (∀ g j, g < B → b.frozen? ⟨g, j, none⟩ = a.frozen? ⟨g, j, none⟩) :=
  ⟨fun g j hg => h.cell (p := ⟨g, j, none⟩) hg, fun g j hg => h.frozen (p := ⟨g, j, none⟩) hg⟩
theorem Row.lt {g : Nat} {L : List Cd} {w : World} (h : Row g L w) (h0 : 0 < L.length) : g < w.heap.size := World.block_lt_of_cell? _ _ (h.at_ 0 h0).1
theorem Row.stepB {g B : Nat} {L : List Cd} {w w1 : World} (h : Row g L w) (hg : g < B) (hb : Below B w w1) : Row g L w1 := ⟨fun i hi => by
  obtain ⟨c1, c2, c3, c4⟩ := h.at_ i hi
  exact ⟨(hb.cell (p := ⟨g, _, none⟩) hg).trans c1, (hb.cell (p := ⟨g, _, none⟩) hg).trans c2, (hb.cell (p := ⟨g, _, none⟩) hg).trans c3, (hb.cell (p := ⟨g, _, none⟩) hg).trans c4⟩⟩
theorem end_new {w w0 w3 : World} {g2 : Nat} {L : List Cd} (kk : Cd) (h : Row g2 L w0 ∧ Below w.heap.size w w0) (h3 : Below w0.drew.heap.size w0.drew w3) :
    Row w3.heap.size [kk] (w3.alloc (.cells #[.int .i64 kk.f0, .int .i64 kk.f1, .int .i64 kk.f2, .string kk.f3] 28)) ∧ Row g2 L (w3.alloc (.cells #[.int .i64 kk.f0, .int .i64 kk.f1, .int .i64 kk.f2, .string kk.f3] 28)) ∧ Below w.heap.size w (w3.alloc (.cells #[.int .i64 kk.f0, .int .i64 kk.f1, .int .i64 kk.f2, .string kk.f3] 28)) := by
  have h5 : Below w.heap.size w w3 := h.2.drew.trans (h3.mono h.2.size)
  refine ⟨row_new kk w3, ((h.1.drewN 1).step h3).step (below_new w3 _), h5.trans ((below_new w3 _).mono h5.size)⟩
theorem end_set {w w0 w3 : World} {g2 : Nat} {L : List Cd} (kk : Cd) (u0 u1 u2 u3 : Value) (h : Row g2 L w0 ∧ Below w.heap.size w w0) (h0 : 0 < L.length) (h3 : Below ((w0.alloc (.cells #[u0, u1, u2, u3] 28)).drew).heap.size ((w0.alloc (.cells #[u0, u1, u2, u3] 28)).drew) w3) :
    Row w0.heap.size [kk] (w3.setCells w0.heap.size 0 [.int .i64 kk.f0, .int .i64 kk.f1, .int .i64 kk.f2, .string kk.f3]) ∧ Row g2 L (w3.setCells w0.heap.size 0 [.int .i64 kk.f0, .int .i64 kk.f1, .int .i64 kk.f2, .string kk.f3]) ∧ Below w.heap.size w (w3.setCells w0.heap.size 0 [.int .i64 kk.f0, .int .i64 kk.f1, .int .i64 kk.f2, .string kk.f3]) := by
  have hlt : w0.heap.size < ((w0.alloc (.cells #[u0, u1, u2, u3] 28)).drew).heap.size := by
    show w0.heap.size < (w0.alloc _).heap.size
    simp
  have hg := h.1.lt h0
  have hn : Below w0.heap.size w0 (w0.alloc (.cells #[u0, u1, u2, u3] 28)).drew := (below_new w0 _).drew
  have h6 : Below w0.heap.size w0 w3 := hn.trans (h3.mono hn.size)
  have hb : w3.heap[w0.heap.size]? = some (.cells #[u0, u1, u2, u3] 28 (0, 0)) := by
    rw [h3.block _ hlt]
    show (w0.heap.push _)[w0.heap.size]? = _
    simp
  obtain ⟨cur', e1, e2, e3, e4⟩ := heap_setCells_at w0.heap.size [.int .i64 kk.f0, .int .i64 kk.f1, .int .i64 kk.f2, .string kk.f3] 0 w3 _ _ hb (by simp)
  have ho := setCells_other w0.heap.size [.int .i64 kk.f0, .int .i64 kk.f1, .int .i64 kk.f2, .string kk.f3] 0 w3
  refine ⟨⟨fun i hi => ?_⟩, (h.1.step h6).stepB hg ho, (h.2.trans (h6.mono h.2.size)).trans (ho.mono h.2.size)⟩
  have : i = 0 := by simp at hi; omega
  subst this
  have e : ∀ j u, cur'[j]? = some u → (w3.setCells w0.heap.size 0 [.int .i64 kk.f0, .int .i64 kk.f1, .int .i64 kk.f2, .string kk.f3]).cell? ⟨w0.heap.size, j, none⟩ = some u := fun j u hj => by simp [World.cell?, World.cells?, e1, hj]
  exact ⟨e 0 _ (e3 0 (by simp)), e 1 _ (e3 1 (by simp)), e 2 _ (e3 2 (by simp)), e 3 _ (e3 3 (by simp))⟩
/-- One candidate of a row. -/
theorem Row.pick {g m n : Nat} {F : List Cd} {w : World} {x : Cd} (h : Row g F w) (hk : F.length = n ∧ ∃ hm, x = F[m]'hm) : w.cell? ⟨g, m * 4, none⟩ = some (.int .i64 x.f0) ∧ w.cell? ⟨g, m * 4 + 1, none⟩ = some (.int .i64 x.f1) ∧ w.cell? ⟨g, m * 4 + 2, none⟩ = some (.int .i64 x.f2) ∧ w.cell? ⟨g, m * 4 + 3, none⟩ = some (.string x.f3) := by
  obtain ⟨_, hm, rfl⟩ := hk
  exact h.at_ m hm
set_option maxHeartbeats 4000000 in
set_option maxRecDepth 100000 in
theorem sorts_big (A0 : Option Addr) (c0 : Nat) (l : List Rf) (a1 : Int) (w : World) (hb : 60 < l.length) (hm : l.length ≤ maxLen) :
    Calls Try.prog 3 #[.slice A0 l.length c0, .int .u8 a1] w fun e w' => e = .returned (.bool true) ∧ Below w.heap.size w w' := by
  have HM := Aside0.mk hm
  have z1 : (60 : Int) < (l.length : Int) := by omega
  have c1 : decide ((60 : Int) < (l.length : Int)) = true := decide_eq_true z1
  have c1b : decide (60 < l.length) = true := decide_eq_true hb
  go_enter Try.func3, Try.ntmps3
  go_wp2_with fail
  refine Calls.mono (awake_call _) ?_; rintro e w2 ⟨rfl, h2⟩; have HB := Aside0.mk h2; clear h2
  go_wp2_with fail
  refine Calls.mono (awake_call _) ?_; rintro e w3 ⟨rfl, h3⟩; have HB2 := Aside0.mk (HB.out.trans (h3.mono HB.out.size)); clear h3
  go_wp2_with fail
  go_ret
  exact ⟨rfl, HB2.out⟩
set_option maxHeartbeats 4000000 in
set_option maxRecDepth 100000 in
theorem sorts_small (A0 : Option Addr) (c0 : Nat) (l : List Rf) (a1 : Int) (w : World) (hr : Kd.C k44 w A0 l.length l) (hc : l.length ≤ c0) (hb : l.length ≤ 60) (h0 : 0 < l.length) (ha : 0 ≤ a1 ∧ a1 ≤ 255) :
    Calls Try.prog 3 #[.slice A0 l.length c0, .int .u8 a1] w fun e w' => e = .returned (.bool true) ∧ Below w.heap.size w w' := by
  obtain ⟨n, hn⟩ : ∃ n, n = l.length := ⟨_, rfl⟩
  have HR := Aside0.mk (show ∀ (w' : World), Below w.heap.size w w' → Kd.C k44 w' A0 n l from fun w' hb => by rw [hn]; exact Kd.C_below hr hb)
  have HL := Aside0.mk (show n = l.length ∧ n ≤ c0 ∧ n ≤ 60 ∧ 0 < n from ⟨hn, by omega, by omega, by omega⟩)
  have hu := Try.underlying28
  have z1 : ¬ (60 : Int) < (n : Int) := by omega
  have c1 : decide ((60 : Int) < (n : Int)) = false := decide_eq_false z1
  have c1b : decide (60 < n) = false := decide_eq_false (by omega)
  have c1c : ¬ 60 < n := by omega
  have c2 : decide ((0 : Int) < (n : Int)) = true := decide_eq_true (by omega)
  have c2b : decide (0 < n) = true := decide_eq_true (by omega)
  have c2c : 0 < n := by omega
  have ew : (Value.slice A0 l.length c0) = .slice A0 n c0 := by rw [hn]
  rw [ew]
  clear ew hr hc hb h0 hn
  go_enter Try.func3, Try.ntmps3
  go_wp2_with fail
  refine Calls.mono (awake_call _) ?_; rintro e w2 ⟨rfl, h2⟩; have HB := Aside0.mk h2; clear h2
  go_wp2_with fail
  refine Calls.mono (fwdn A0 c0 n l _ (HR.out _ HB.out) HL.out) ?_; rintro e w3 ⟨g1, k1, rfl, h1, h2, h3, h4⟩; have HB2 := Aside0.mk (HB.out.trans (h4.mono HB.out.size)); have H3 := Aside0.mk (And.intro h3 h1); clear h1 h2 h3 h4 HB
  go_wp2_with fail
  refine Calls.mono (sortn g1 k1 n _ _ H3.out.1 (by rw [List.length_map]; exact ⟨HL.out.1, H3.out.2, HL.out.2.2⟩)) ?_; rintro e w4 ⟨g2, k2, rfl, h1, h2⟩; have HB3 := Aside0.mk (HB2.out.trans (h2.mono HB2.out.size)); have HS := Aside0.mk h1; clear h1 h2 HB2 H3
  go_wp2_with fail
  refine Calls.mono (fwdn A0 c0 n l _ (HR.out _ HB3.out) HL.out) ?_; rintro e w5 ⟨g3, k3, rfl, h1, h2, h3, h4⟩; have HB4 := Aside0.mk (HB3.out.trans (h4.mono HB3.out.size)); have HS4 := Aside0.mk (HS.out.step h4); have H3 := Aside0.mk (And.intro h3 h1); clear h1 h2 h3 h4 HB3 HS
  go_wp2_with fail
  obtain ⟨L, hL⟩ : ∃ L, L = isort lessB (l.map fw) := ⟨_, rfl⟩
  obtain ⟨b, hb⟩ : ∃ b, b = L.headD z28 := ⟨_, rfl⟩
  rw [← hL] at HS4
  have HLL := Aside0.mk (And.intro hL hb)
  clear hL hb
  refine Calls.mono (firstn g3 k3 n _ _ H3.out.1 (by rw [List.length_map]; exact ⟨HL.out.1, H3.out.2, HL.out.2.2⟩) b (by rw [← HLL.out.1]; exact HLL.out.2)) ?_; rintro e w6 ⟨rfl, h2⟩; have HB5 := Aside0.mk (HB4.out.trans (h2.mono HB4.out.size)); have HS5 := Aside0.mk (HS4.out.step h2); clear h2 HB4 HS4 H3
  go_wp2_with fail
  obtain ⟨w7, hw7⟩ : ∃ w7, w7 = w6.alloc (.cells #[.int .i64 b.f0, .int .i64 b.f1, .int .i64 b.f2, .string b.f3] 28) := ⟨_, rfl⟩
  rw [← hw7]
  obtain ⟨bx, hbx⟩ : ∃ bx, bx = w6.heap.size := ⟨_, rfl⟩
  rw [← hbx]
  have HX := Aside0.mk (show Row bx [b] w7 from by rw [hw7, hbx]; exact row_new b w6)
  have HB7 := Aside0.mk (show Below w.heap.size w w7 from by rw [hw7]; exact HB5.out.trans ((below_new w6 _).mono HB5.out.size))
  have HS7 := Aside0.mk (show Row g2 L w7 from by rw [hw7]; exact HS5.out.step (below_new w6 _))
  have HLN := Aside0.mk (show L.length = n from by rw [HLL.out.1, length_isort, List.length_map]; exact HL.out.1.symm)
  clear hw7 hbx HB5 HS5
  obtain ⟨x1, x2, x3, x4⟩ := HX.out.hd (b := b) (by simp) rfl
  obtain ⟨y1, y2, y3, y4⟩ := HS7.out.hd (b := b) (by rw [HLN.out]; exact HL.out.2.2.2) HLL.out.2
  go_quiet (fail)
  clear x1 x2 x3 x4 y1 y2 y3 y4
  go_wp2_with fail
  have HW8 := Aside0.mk (show Row bx [b] (w7.drewN nq) ∧ Row g2 L (w7.drewN nq) ∧ Below w.heap.size w (w7.drewN nq) from ⟨HX.out.drewN nq, HS7.out.drewN nq, below_drewN HB7.out nq⟩)
  clear HX HS7 HB7
  generalize w7.drewN nq = w8 at HW8 ⊢
  go_loopg [8] n (fun kq v8 w' => ∃ i : Nat, v8 = .int .i64 i ∧ Aside0 (i + kq = n + 1 ∧ 0 < i) ∧ Aside0 (Row bx [b] w' ∧ Row g2 L w' ∧ Below w.heap.size w w'))
  case atStart => exact ⟨1, rfl, ⟨by have := HL.out.2.2.2; omega⟩, HW8⟩
  case round =>
    clear HW8
    obtain ⟨i, rfl, HI, HW⟩ := hrel
    obtain ⟨i1, i2⟩ := HI.out
    by_cases hin : i < n
    · obtain ⟨k1, rfl⟩ : ∃ m, gk = m + 1 := ⟨gk - 1, by omega⟩
      have d1 : decide ((i : Int) < (n : Int)) = true := decide_eq_true (by omega)
      have d1b : decide (i < n) = true := decide_eq_true hin
      have hiL : i < L.length := by rw [HLN.out]; exact hin
      obtain ⟨x1, x2, x3, x4⟩ := HW.out.2.1.at_ i hiL
      obtain ⟨y1, y2, y3, y4⟩ := HW.out.2.1.at_ (i - 1) (by omega)
      have hle : lessB L[i] L[i - 1] = false := by
        have e := HLL.out.1
        subst e
        exact sorted_at _ i i2 hiL
      have HLE := Aside0.mk hle
      obtain ⟨x, hx⟩ : ∃ x, x = L[i] := ⟨_, rfl⟩
      obtain ⟨y, hy⟩ : ∃ y, y = L[i - 1] := ⟨_, rfl⟩
      rw [← hx] at x1 x2 x3 x4
      rw [← hy] at y1 y2 y3 y4
      rw [← hx, ← hy] at HLE
      have b1 : (0 : Int) ≤ (i : Int) := by omega
      have b2 : (i : Int) < (n : Int) := by omega
      obtain ⟨i', hi'⟩ : ∃ i' : Nat, i' + 1 = i := ⟨i - 1, by omega⟩
      have b3 : (0 : Int) ≤ (i' : Int) := by omega
      have b4 : (i' : Int) < (n : Int) := by omega
      have b5 : IntKind.i64.wrap ((i : Int) - 1) = (i' : Int) := by rw [IntWalk.i64_in _ (by have := HL.out.2.2; omega)]; omega
      rw [show i - 1 = i' by omega] at y1 y2 y3 y4
      clear hle hx hy hiL hi'
      go_wp2_with fail
      have D := Aside0.mk (show Row bx [b] wr.drew ∧ Row g2 L wr.drew ∧ Below w.heap.size w wr.drew from ⟨HW.out.1.drewN 1, HW.out.2.1.drewN 1, below_drewN HW.out.2.2 1⟩)
      clear HW
      go_region_held3 (fun w' => w'.cell? ⟨g2, i * 4, none⟩ = some (.int .i64 x.f0) ∧ w'.cell? ⟨g2, i * 4 + 1, none⟩ = some (.int .i64 x.f1) ∧ w'.cell? ⟨g2, i * 4 + 2, none⟩ = some (.int .i64 x.f2) ∧ w'.cell? ⟨g2, i * 4 + 3, none⟩ = some (.string x.f3) ∧ w'.cell? ⟨g2, i' * 4, none⟩ = some (.int .i64 y.f0) ∧ w'.cell? ⟨g2, i' * 4 + 1, none⟩ = some (.int .i64 y.f1) ∧ w'.cell? ⟨g2, i' * 4 + 2, none⟩ = some (.int .i64 y.f2) ∧ w'.cell? ⟨g2, i' * 4 + 3, none⟩ = some (.string y.f3)) (first | go_keep | (refine ⟨?_, ?_, ?_, ?_, ?_, ?_, ?_, ?_⟩ <;> exact (hb.cell (World.block_lt_of_cell? _ _ (by assumption))).trans (by assumption)))
        ((go_at_call 12; refine (precedence_Precedes.calls _ _ _ _ _ _ _ _ _ _ ((less_f x y).trans (congrArg some HLE.out))).mono ?_; rintro e w' ⟨rfl, hb⟩))
      have H2 := Aside0.mk (show Row bx [b] _ ∧ Row g2 L _ ∧ Below w.heap.size w _ from ⟨D.out.1.step hb, D.out.2.1.step hb, D.out.2.2.trans (hb.mono D.out.2.2.size)⟩)
      clear D hb x1 x2 x3 x4 y1 y2 y3 y4
      go_wp2_with fail
      go_roundg k1
      case measure => omega
      case rel => exact ⟨i + 1, by go_num, ⟨by have := HI.out; omega⟩, H2⟩
    · have d1 : decide ((i : Int) < (n : Int)) = false := decide_eq_false (by omega)
      have d1b : decide (i < n) = false := decide_eq_false hin
      have d2 : ((n : Int) == 0) = false := by have := HL.out.2.2.2; simp; omega
      have d2b : (n == 0) = false := by have := HL.out.2.2.2; simp; omega
      clear i1 i2 HI
      go_wp2_with fail
      obtain ⟨m, hm, hmn⟩ : ∃ m : Nat, a1.tmod (n : Int) = (m : Int) ∧ m < n := by
        have hn0 := HL.out.2.2.2
        refine ⟨(a1 % n).toNat, ?_, ?_⟩
        · rw [Int.tmod_eq_emod_of_nonneg ha.1]
          have := Int.emod_nonneg a1 (b := (n : Int)) (by omega)
          omega
        · have := Int.emod_lt_of_pos a1 (b := (n : Int)) (by omega)
          have := Int.emod_nonneg a1 (b := (n : Int)) (by omega)
          omega
      obtain ⟨F, hF⟩ : ∃ F, F = l.map fw := ⟨_, rfl⟩
      have HF := Aside0.mk hF
      have hFn : F.length = n := by rw [hF, List.length_map]; exact HL.out.1.symm
      obtain ⟨kk, hkk⟩ : ∃ kk, kk = F[m]'(by omega) := ⟨_, rfl⟩
      have HK := Aside0.mk (And.intro hFn (show ∃ h, kk = F[m]'h from ⟨_, hkk⟩))
      have d3 : ¬ n = 0 := by omega
      have d4 : IntKind.i64.wrap a1 = a1 := IntWalk.i64_in _ (by omega)
      have b1 : (0 : Int) ≤ (m : Int) := by omega
      have b2 : (m : Int) < (n : Int) := by omega
      clear hF hFn hkk
      go_upto_region 14 with fail
      go_cut [9] (fun v9 wx => ∃ bk, v9 = .pointer (some ⟨bk, 0, none⟩) ∧ Aside0 (Row bk [kk] wx ∧ Row g2 L wx ∧ Below w.heap.size w wx))
      case first =>
        go_region_with (go_at_call 10; refine Calls.mono (fwdn A0 c0 n l _ (HR.out _ (by first | exact HW.out.2.2.drew | exact (HW.out.2.2.alloc HW.out.2.2.size _).drew | exact HW.out.2.2.drew.alloc HW.out.2.2.size _)) HL.out) ?_; rintro e w3 ⟨g4, k4, rfl, h1, h2, h3, h4⟩; rw [← HF.out] at h2; obtain ⟨z1, z2, z3, z4⟩ := h2.pick HK.out; have z5 : g4 < w3.heap.size := World.block_lt_of_cell? _ _ z1; have H4 := Aside0.mk h4; have hkc := (below_cells h4).1; have hkf := (below_cells h4).2; clear h1 h2 h3 h4)
        all_goals (go_wp2_with fail; go_meet)
        case rel => exact ⟨_, rfl, ⟨end_new kk HW.out.2 H4.out⟩⟩
        case rel => exact ⟨_, rfl, ⟨end_new kk HW.out.2 H4.out⟩⟩
        case rel => exact ⟨_, rfl, ⟨end_set kk _ _ _ _ HW.out.2 (by rw [HLN.out]; exact HL.out.2.2.2) H4.out⟩⟩
      case rest =>
        obtain ⟨bk, rfl, HW2⟩ := hcut
        go_wp2_with fail
        clear HW
        go_loopg [10, 11] n (fun kq v10 v11 w' => ∃ i : Nat, v11 = .int .i64 i ∧ v10 = .int .i64 (((L.take i).countP (fun x => eqC x kk) : Int) - ((F.take i).countP (fun x => eqC x kk) : Int)) ∧ Aside0 (i + kq = n) ∧ Aside0 (Row bk [kk] w' ∧ Row g2 L w' ∧ Below w.heap.size w w'))
        case atStart => exact ⟨0, rfl, rfl, ⟨by omega⟩, HW2⟩
        case round =>
          clear HW2
          obtain ⟨i, rfl, rfl, HI, HW⟩ := hrel
          have i1 := HI.out
          by_cases hin : i < n
          · obtain ⟨g1', rfl⟩ : ∃ m, gk = m + 1 := ⟨gk - 1, by omega⟩
            have hiL : i < L.length := by rw [HLN.out]; exact hin
            have hiF : i < F.length := by rw [HK.out.1]; exact hin
            obtain ⟨x, hx⟩ : ∃ x, x = L[i] := ⟨_, rfl⟩
            obtain ⟨y, hy⟩ : ∃ y, y = F[i] := ⟨_, rfl⟩
            obtain ⟨e1, he1⟩ : ∃ e, eqC x kk = e := ⟨_, rfl⟩
            obtain ⟨e2, he2⟩ : ∃ e, eqC y kk = e := ⟨_, rfl⟩
            have hc1 := count_step (fun x => eqC x kk) L i hiL
            have hc2 := count_step (fun x => eqC x kk) F i hiF
            rw [← hx] at hc1
            rw [← hy] at hc2
            simp only [he1, he2] at hc1 hc2
            have hk1 : (L.take i).countP (fun x => eqC x kk) ≤ i := by
              have := List.countP_le_length (p := fun x => eqC x kk) (l := L.take i)
              rw [List.length_take] at this; omega
            have hk2 : (F.take i).countP (fun x => eqC x kk) ≤ i := by
              have := List.countP_le_length (p := fun x => eqC x kk) (l := F.take i)
              rw [List.length_take] at this; omega
            obtain ⟨D, hD⟩ : ∃ D : Int, D = (((L.take i).countP (fun x => eqC x kk) : Int) - ((F.take i).countP (fun x => eqC x kk) : Int)) := ⟨_, rfl⟩
            rw [← hD]
            have hn60 := HL.out.2.2.1
            have hD1 : -61 < D ∧ D < 61 := by omega
            have HD := Aside0.mk (show (((L.take (i + 1)).countP (fun x => eqC x kk) : Int) - ((F.take (i + 1)).countP (fun x => eqC x kk) : Int)) = D + (if e1 = true then 1 else 0) - (if e2 = true then 1 else 0) from by rw [hc1, hc2, hD]; split <;> split <;> omega)
            have hp : IntKind.i64.wrap (D + 1) = D + 1 := IntWalk.i64_in _ (by omega)
            have hm1 : IntKind.i64.wrap (D - 1) = D - 1 := IntWalk.i64_in _ (by omega)
            have hm2 : IntKind.i64.wrap (D + 1 - 1) = D := by rw [IntWalk.i64_in _ (by omega)]; omega
            have HY := Aside0.mk (show F.length = n ∧ ∃ h, y = F[i]'h from ⟨HK.out.1, hiF, hy⟩)
            obtain ⟨x1, x2, x3, x4⟩ := HW.out.2.1.pick (n := n) ⟨HLN.out, hiL, hx⟩
            obtain ⟨k1', k2', k3', k4'⟩ := HW.out.1.hd (b := kk) (by simp) rfl
            have q1 : ∀ w d, (Op.equalIn (d + 2) 28 (.agg #[.int .i64 x.f0, .int .i64 x.f1, .int .i64 x.f2, .string x.f3]) (.agg #[.int .i64 kk.f0, .int .i64 kk.f1, .int .i64 kk.f2, .string kk.f3])).run Try.prog w = .ok e1 w := fun w d => by rw [← he1]; exact eqA28 d w _ _ _ _ _ _ _ _
            have q2 : ∀ w d, (Op.equalIn (d + 2) 28 (.agg #[.int .i64 y.f0, .int .i64 y.f1, .int .i64 y.f2, .string y.f3]) (.agg #[.int .i64 kk.f0, .int .i64 kk.f1, .int .i64 kk.f2, .string kk.f3])).run Try.prog w = .ok e2 w := fun w d => by rw [← he2]; exact eqA28 d w _ _ _ _ _ _ _ _
            have d5 : decide ((i : Int) < (n : Int)) = true := decide_eq_true (by omega)
            have d5b : decide (i < n) = true := decide_eq_true hin
            have b5 : (0 : Int) ≤ (i : Int) := by omega
            have b6 : (i : Int) < (n : Int) := by omega
            clear hc1 hc2 hk1 hk2 hD hn60 hx hy he1 he2 hiL hiF d1 d1b d2 d2b d3 d4
            cases e1 with
            | true =>
              go_wp2_with fail
              go_quiet (fail)
              go_wp2_with fail
              have HW3 := Aside0.mk (show Row bk [kk] _ ∧ Row g2 L _ ∧ Below w.heap.size w _ from ⟨HW.out.1.drewN nq, HW.out.2.1.drewN nq, below_drewN HW.out.2.2 nq⟩)
              clear HW x1 x2 x3 x4 q1 k1' k2' k3' k4'
              generalize wr.drewN nq = w9 at HW3 ⊢
              have HD9 := Aside0.mk (show Row bk [kk] w9.drew ∧ Row g2 L w9.drew ∧ Below w.heap.size w w9.drew from ⟨HW3.out.1.drewN 1, HW3.out.2.1.drewN 1, below_drewN HW3.out.2.2 1⟩)
              refine wp_region_held_drew (S := (fun w' => w'.cell? ⟨bk, 0, none⟩ = some (.int .i64 kk.f0) ∧ w'.cell? ⟨bk, 1, none⟩ = some (.int .i64 kk.f1) ∧ w'.cell? ⟨bk, 2, none⟩ = some (.int .i64 kk.f2) ∧ w'.cell? ⟨bk, 3, none⟩ = some (.string kk.f3))) (by kernel_rfl) (HD9.out.1.hd (b := kk) (by simp) rfl) (fun hHeld => ?_)
              refine wpAnyH_take (i := 0) (v := ?va0) rfl (by kernel_rfl) (by kernel_rfl) (by kernel_rfl) (fun _ _ _ h => h) (Or.inl ⟨by rfl, ?hya0⟩) (by assumption) ?resta0
              case hya0 => (intro w hSw; (try dsimp only at hSw); go_simp; first | done | with_reducible rfl)
              try simp only [Act.put, List.setIfInBounds_toArray, List.set_cons_zero, List.set_cons_succ]
              refine wpAnyH_take (i := 2) (v := ?va2) rfl (by kernel_rfl) (by kernel_rfl) (by kernel_rfl) (fun _ _ _ h => h) (Or.inl ⟨by rfl, ?hya2⟩) (by assumption) ?resta2
              case hya2 => (intro w hSw; (try dsimp only at hSw); go_simp; first | done | with_reducible rfl)
              try simp only [Act.put, List.setIfInBounds_toArray, List.set_cons_zero, List.set_cons_succ]
              refine wpAnyH_take (i := 5) (v := ?va5) rfl (by kernel_rfl) (by kernel_rfl) (by kernel_rfl) (fun _ _ _ h => h) (Or.inl ⟨by rfl, ?hya5⟩) (by assumption) ?resta5
              case hya5 => (intro w hSw; (try dsimp only at hSw); go_simp; first | done | with_reducible rfl)
              try simp only [Act.put, List.setIfInBounds_toArray, List.set_cons_zero, List.set_cons_succ]
              refine wpAnyH_ready (rs := [1]) (by kernel_rfl) (by simp) ?_
              refine AllReadyH.cons rfl (fun K hK => ?_) ?_
              rotate_left
              · exact AllReadyH.nil
              go_simp
              (go_at_call 10; refine Calls.mono (fwdn A0 c0 n l _ (HR.out _ HD9.out.2.2) HL.out) ?_; rintro e w3 ⟨g4, k4, rfl, h1, h2, h3, h4⟩; rw [← HF.out] at h2; obtain ⟨z1, z2, z3, z4⟩ := h2.pick HY.out; have H5 := Aside0.mk (show Row bk [kk] w3 ∧ Row g2 L w3 ∧ Below w.heap.size w w3 from ⟨HD9.out.1.step h4, HD9.out.2.1.step h4, HD9.out.2.2.trans (h4.mono HD9.out.2.2.size)⟩); clear h1 h2 h3 h4 HD9 HW3)
              go_wp2_with fail
              refine hK.out _ _ (H5.out.1.hd (b := kk) (by simp) rfl) (fun hHeld2 => ?_)
              clear hK K hHeld
              try simp only [Act.put, List.setIfInBounds_toArray, List.set_cons_zero, List.set_cons_succ]
              refine wpAnyH_take (i := 3) (v := ?va3) rfl (by kernel_rfl) (by kernel_rfl) (by kernel_rfl) (fun _ _ _ h => h) (Or.inl ⟨by rfl, ?hya3⟩) (by assumption) ?resta3
              case hya3 => (intro w hSw; (try dsimp only at hSw); go_simp; first | done | with_reducible rfl)
              try simp only [Act.put, List.setIfInBounds_toArray, List.set_cons_zero, List.set_cons_succ]
              refine wpAnyH_ready (rs := [4]) (by kernel_rfl) (by simp) ?_
              refine AllReadyH.cons rfl (fun K hK => ?_) ?_
              rotate_left
              · exact AllReadyH.nil
              go_simp
              refine hK.out _ _ hHeld2 (fun hHeld => ?_)
              clear hK K hHeld2
              try simp only [Act.put, List.setIfInBounds_toArray, List.set_cons_zero, List.set_cons_succ]
              refine wpAnyH_take (i := 6) (v := ?va6) rfl (by kernel_rfl) (by kernel_rfl) (by kernel_rfl) (fun _ _ _ h => h) (Or.inl ⟨by rfl, ?hya6⟩) (by assumption) ?resta6
              case hya6 => (intro w hSw; (try dsimp only at hSw); go_simp; first | done | with_reducible rfl)
              try simp only [Act.put, List.setIfInBounds_toArray, List.set_cons_zero, List.set_cons_succ]
              refine wpAnyH_done (by kernel_rfl) ?_ _
              clear z1 z2 z3 z4 hHeld q2
              cases e2 with
              | true =>
                go_wp2_with fail
                go_roundg g1'
                case measure => omega
                case rel => exact ⟨i + 1, by go_num, by have := HD.out; simp at this; rw [this], ⟨by omega⟩, H5⟩
              | false =>
                go_wp2_with fail
                go_roundg g1'
                case measure => omega
                case rel => exact ⟨i + 1, by go_num, by have := HD.out; simp at this; rw [this], ⟨by omega⟩, H5⟩
            | false =>
              go_wp2_with fail
              go_quiet (fail)
              go_wp2_with fail
              have HW3 := Aside0.mk (show Row bk [kk] _ ∧ Row g2 L _ ∧ Below w.heap.size w _ from ⟨HW.out.1.drewN nq, HW.out.2.1.drewN nq, below_drewN HW.out.2.2 nq⟩)
              clear HW x1 x2 x3 x4 q1 k1' k2' k3' k4'
              generalize wr.drewN nq = w9 at HW3 ⊢
              have HD9 := Aside0.mk (show Row bk [kk] w9.drew ∧ Row g2 L w9.drew ∧ Below w.heap.size w w9.drew from ⟨HW3.out.1.drewN 1, HW3.out.2.1.drewN 1, below_drewN HW3.out.2.2 1⟩)
              refine wp_region_held_drew (S := (fun w' => w'.cell? ⟨bk, 0, none⟩ = some (.int .i64 kk.f0) ∧ w'.cell? ⟨bk, 1, none⟩ = some (.int .i64 kk.f1) ∧ w'.cell? ⟨bk, 2, none⟩ = some (.int .i64 kk.f2) ∧ w'.cell? ⟨bk, 3, none⟩ = some (.string kk.f3))) (by kernel_rfl) (HD9.out.1.hd (b := kk) (by simp) rfl) (fun hHeld => ?_)
              refine wpAnyH_take (i := 0) (v := ?vb0) rfl (by kernel_rfl) (by kernel_rfl) (by kernel_rfl) (fun _ _ _ h => h) (Or.inl ⟨by rfl, ?hyb0⟩) (by assumption) ?restb0
              case hyb0 => (intro w hSw; (try dsimp only at hSw); go_simp; first | done | with_reducible rfl)
              try simp only [Act.put, List.setIfInBounds_toArray, List.set_cons_zero, List.set_cons_succ]
              refine wpAnyH_take (i := 2) (v := ?vb2) rfl (by kernel_rfl) (by kernel_rfl) (by kernel_rfl) (fun _ _ _ h => h) (Or.inl ⟨by rfl, ?hyb2⟩) (by assumption) ?restb2
              case hyb2 => (intro w hSw; (try dsimp only at hSw); go_simp; first | done | with_reducible rfl)
              try simp only [Act.put, List.setIfInBounds_toArray, List.set_cons_zero, List.set_cons_succ]
              refine wpAnyH_take (i := 5) (v := ?vb5) rfl (by kernel_rfl) (by kernel_rfl) (by kernel_rfl) (fun _ _ _ h => h) (Or.inl ⟨by rfl, ?hyb5⟩) (by assumption) ?restb5
              case hyb5 => (intro w hSw; (try dsimp only at hSw); go_simp; first | done | with_reducible rfl)
              try simp only [Act.put, List.setIfInBounds_toArray, List.set_cons_zero, List.set_cons_succ]
              refine wpAnyH_ready (rs := [1]) (by kernel_rfl) (by simp) ?_
              refine AllReadyH.cons rfl (fun K hK => ?_) ?_
              rotate_left
              · exact AllReadyH.nil
              go_simp
              (go_at_call 10; refine Calls.mono (fwdn A0 c0 n l _ (HR.out _ HD9.out.2.2) HL.out) ?_; rintro e w3 ⟨g4, k4, rfl, h1, h2, h3, h4⟩; rw [← HF.out] at h2; obtain ⟨z1, z2, z3, z4⟩ := h2.pick HY.out; have H5 := Aside0.mk (show Row bk [kk] w3 ∧ Row g2 L w3 ∧ Below w.heap.size w w3 from ⟨HD9.out.1.step h4, HD9.out.2.1.step h4, HD9.out.2.2.trans (h4.mono HD9.out.2.2.size)⟩); clear h1 h2 h3 h4 HD9 HW3)
              go_wp2_with fail
              refine hK.out _ _ (H5.out.1.hd (b := kk) (by simp) rfl) (fun hHeld2 => ?_)
              clear hK K hHeld
              try simp only [Act.put, List.setIfInBounds_toArray, List.set_cons_zero, List.set_cons_succ]
              refine wpAnyH_take (i := 3) (v := ?vb3) rfl (by kernel_rfl) (by kernel_rfl) (by kernel_rfl) (fun _ _ _ h => h) (Or.inl ⟨by rfl, ?hyb3⟩) (by assumption) ?restb3
              case hyb3 => (intro w hSw; (try dsimp only at hSw); go_simp; first | done | with_reducible rfl)
              try simp only [Act.put, List.setIfInBounds_toArray, List.set_cons_zero, List.set_cons_succ]
              refine wpAnyH_ready (rs := [4]) (by kernel_rfl) (by simp) ?_
              refine AllReadyH.cons rfl (fun K hK => ?_) ?_
              rotate_left
              · exact AllReadyH.nil
              go_simp
              refine hK.out _ _ hHeld2 (fun hHeld => ?_)
              clear hK K hHeld2
              try simp only [Act.put, List.setIfInBounds_toArray, List.set_cons_zero, List.set_cons_succ]
              refine wpAnyH_take (i := 6) (v := ?vb6) rfl (by kernel_rfl) (by kernel_rfl) (by kernel_rfl) (fun _ _ _ h => h) (Or.inl ⟨by rfl, ?hyb6⟩) (by assumption) ?restb6
              case hyb6 => (intro w hSw; (try dsimp only at hSw); go_simp; first | done | with_reducible rfl)
              try simp only [Act.put, List.setIfInBounds_toArray, List.set_cons_zero, List.set_cons_succ]
              refine wpAnyH_done (by kernel_rfl) ?_ _
              clear z1 z2 z3 z4 hHeld q2
              cases e2 with
              | true =>
                go_wp2_with fail
                go_roundg g1'
                case measure => omega
                case rel => exact ⟨i + 1, by go_num, by have := HD.out; simp at this; rw [this], ⟨by omega⟩, H5⟩
              | false =>
                go_wp2_with fail
                go_roundg g1'
                case measure => omega
                case rel => exact ⟨i + 1, by go_num, by have := HD.out; simp at this; rw [this], ⟨by omega⟩, H5⟩
          · have d5 : decide ((i : Int) < (n : Int)) = false := decide_eq_false (by omega)
            have d5b : decide (i < n) = false := decide_eq_false hin
            have hz : (((L.take i).countP (fun x => eqC x kk) : Int) - ((F.take i).countP (fun x => eqC x kk) : Int)) = 0 := by
              rw [List.take_of_length_le (by rw [HLN.out]; omega), List.take_of_length_le (by rw [HK.out.1]; omega)]
              have e := HLL.out.1
              rw [e, ← HF.out, (isort_perm lessB F).countP_eq]
              omega
            rw [hz]
            clear hz
            go_wp2_with fail
            go_ret
            exact ⟨rfl, HW.out.2.2⟩
set_option maxHeartbeats 4000000 in
set_option maxRecDepth 100000 in
theorem sorts_nil (A0 : Option Addr) (c0 : Nat) (a1 : Int) (w : World) (hr : Kd.C k44 w A0 0 []) :
    Calls Try.prog 3 #[.slice A0 0 c0, .int .u8 a1] w fun e w' => e = .returned (.bool true) ∧ Below w.heap.size w w' := by
  have HR := Aside0.mk (show ∀ (w' : World), Below w.heap.size w w' → Kd.C k44 w' A0 0 [] from fun w' hb => Kd.C_below hr hb)
  have HF := Aside0.mk (show ∀ (w' : World), Below w.heap.size w w' → Calls Try.prog 10 #[.slice A0 0 c0] w' fun e w'' => ∃ A c, e = .returned (.slice A 0 c) ∧ Kd.C k28 w'' A 0 [] ∧ Below w.heap.size w w'' from fun w' hb => by
    refine (fwd_call A0 c0 [] w' (HR.out w' hb) (Nat.zero_le _) (by simp)).mono ?_
    rintro e w'' ⟨v, rfl, hR, hb2⟩
    obtain ⟨A, c, rfl, hc, hC⟩ := Kd.R_reads hR
    exact ⟨A, c, rfl, hC, hb.trans (hb2.mono hb.size)⟩)
  have hu := Try.underlying28
  clear hr
  go_enter Try.func3, Try.ntmps3
  go_wp2_with fail
  refine Calls.mono (awake_call _) ?_; rintro e w2 ⟨rfl, h2⟩; have HB := Aside0.mk h2; clear h2
  go_wp2_with fail
  refine Calls.mono (HF.out _ HB.out) ?_; rintro e w3 ⟨A3, c3, rfl, h1, h2⟩; have H3 := Aside0.mk (And.intro h1 h2); clear h1 h2 HB
  go_wp2_with fail
  refine Calls.mono (sort_call A3 c3 [] _ H3.out.1 (Nat.zero_le _) (by simp)) ?_; rintro e w4 ⟨v, rfl, h1, h2⟩; obtain ⟨A4, c4, hv4, h3, h4⟩ := Kd.R_reads h1; rw [hv4]; have HB4 := Aside0.mk (H3.out.2.trans (h2.mono H3.out.2.size)); clear h1 h2 h3 h4 H3 hv4
  go_wp2_with fail
  refine Calls.mono (HF.out _ HB4.out) ?_; rintro e w5 ⟨A5, c5, rfl, h1, h2⟩; have H5 := Aside0.mk (And.intro h1 h2); clear h1 h2 HB4
  go_wp2_with fail
  refine Calls.mono (precedence_First.calls 1 A5 c5 [] _ _ _ _ _ _ H5.out.1 (Nat.zero_le _) (first_nil 1)) ?_; rintro e w6 ⟨rfl, h2⟩; have HB6 := Aside0.mk (H5.out.2.trans (h2.mono H5.out.2.size)); clear h2 H5
  go_wp2_with fail
  have HB7 := Aside0.mk (HB6.out.trans ((below_new w6 (.cells #[.int .i64 0, .int .i64 0, .int .i64 0, .string ⟨#[]⟩] 28)).mono HB6.out.size))
  go_quiet (fail)
  go_wp2_with fail
  have HB8 := Aside0.mk (below_drewN HB7.out nq)
  clear HB7
  generalize (w6.alloc _).drewN nq = w8 at HB8 ⊢
  go_loopg [8] 0 (fun kq v8 w' => v8 = .int .i64 1 ∧ Aside0 (Below w.heap.size w w'))
  case atStart => exact ⟨rfl, HB8⟩
  case round =>
    clear HB8
    obtain ⟨rfl, HB9⟩ := hrel
    go_wp2_with fail
    go_ret
    exact ⟨rfl, HB9.out⟩
def computuslaw20_PrecedenceSorts.f (l : List Rf) (a : Int) : Option Bool := if l.length ≤ maxLen ∧ 0 ≤ a ∧ a ≤ 255 then some true else none
theorem computuslaw20_PrecedenceSorts.calls (A0 : Option Addr) (c0 : Nat) (l0 : List Rf) (a1 : Int) (r : Bool) (w : World) (hr0 : Kd.C k44 w A0 l0.length l0) (hc0 : l0.length ≤ c0) (h : computuslaw20_PrecedenceSorts.f l0 a1 = some r) :
    Calls Try.prog 3 #[.slice A0 l0.length c0, .int .u8 a1] w fun e w' => e = .returned (.bool r) ∧ Below w.heap.size w w' := by
  unfold computuslaw20_PrecedenceSorts.f at h
  split at h
  · rename_i hc
    obtain rfl : true = r := by simpa using h
    by_cases h60 : l0.length ≤ 60
    · by_cases h0 : 0 < l0.length
      · exact sorts_small A0 c0 l0 a1 w hr0 hc0 h60 h0 hc.2
      · obtain rfl : l0 = [] := List.length_eq_zero_iff.1 (by omega)
        exact sorts_nil A0 c0 a1 w hr0
    · exact sorts_big A0 c0 l0 a1 w (by omega) hc.1
  · simp at h
end Go.Proofs.Ytopfjjdkffdjpaa.Q
namespace Go.Proofs.Ytopfjjdkffdjpaa.Pure
open Go.RowKit Go.Proofs.YtopfjjdkffdjpaaW.PrintWords Go.Proofs.Ytopfjjdkffdjpaa.Q
theorem PrecedenceSorts (l : List Rf) (a : Int) (hl : l.length ≤ maxLen) (_ : ∀ x ∈ l, wf44 x) (ha : (Lit.int .u8 a).wf = true) : computuslaw20_PrecedenceSorts.f l a = some true := by
  have hb : 0 ≤ a ∧ a ≤ 255 := Go.bounds_u8 ha
  unfold computuslaw20_PrecedenceSorts.f
  rw [if_pos ⟨hl, hb⟩]
end Go.Proofs.Ytopfjjdkffdjpaa.Pure
