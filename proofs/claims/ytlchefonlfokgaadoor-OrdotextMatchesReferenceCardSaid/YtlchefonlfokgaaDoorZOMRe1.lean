/- What is proved: what the statement OrdotextMatchesReferenceSaid needs, part 2 of 12; the last part proves the statement. No condition. -/
import Derived.Test.YtlchefonlfokgaaDoorZOMRe0
import Derived.Test.YtlchefonlfokgaaDoorProg
set_option maxHeartbeats 8000000
set_option maxRecDepth 100000
set_option linter.unusedVariables false
set_option linter.unusedSimpArgs false
section
namespace Go.Proofs.YtlchefonlfokgaaDoor.Q
open Go.RowKit Go.Proofs.YtlchefonlfokgaaDoorW.PrintWords Go.Proofs.YtlchefonlfokgaaDoorW.PrintLast Go.Proofs.YtlchefonlfokgaaDoorW.PrintMore
attribute [local go_sem] max2_int min2_int max_two min_two max_three min_three max_four min_four
def errW : Option Int → Value
 | none => .nilIface
 | some c => .iface 0 (.int .i64 c)
theorem errW_none : errW none = .nilIface := rfl
theorem errW_some (c : Int) : errW (some c) = .iface 0 (.int .i64 c) := rfl
theorem info9 : (Tryd.prog.info? 9).map (fun i => (i.zero, i.size, i.bytes)) = some (some (.string ⟨#[]⟩), 1, 16) := by kernel_rfl
theorem info40 : (Tryd.prog.info? 40).map (fun i => (i.zero, i.size, i.bytes)) = some (some (.agg #[(.int .i64 0), (.int .i64 0), (.int .i64 0), (.int .i64 0), (.string ⟨#[]⟩), (.int .i64 0), (.int .i64 0), (.string ⟨#[]⟩), (.int .i64 0), (.int .i64 0), (.int .i64 0), (.int .i64 0), (.slice none 0 0), (.slice none 0 0)]), 14, 160) := by kernel_rfl
-- the values' own types
structure S37 where
 f0 : Int
 f1 : Int
 f2 : Int
def z37 : S37 := ⟨(0 : Int), (0 : Int), (0 : Int)⟩
def k37 : Kd S37 := Kd.iso (Kd.pair (Kd.int .i64) (Kd.pair (Kd.int .i64) (Kd.int .i64))) (fun x : S37 => (x.f0, x.f1, x.f2))
theorem k37_open {w : World} {x : S37} {cs : List Value} (h : k37.K w x cs) : cs = [.int .i64 x.f0, .int .i64 x.f1, .int .i64 x.f2] := by
 obtain ⟨_, _, rfl, rfl, ⟨_, _, rfl, rfl, rfl⟩⟩ := h
 exact rfl
theorem k37_openM {w : World} {base : Nat} {ok : Nat → Prop} {x : S37} {cs : List Value} (h : k37.M w base ok x cs) : cs = [.int .i64 x.f0, .int .i64 x.f1, .int .i64 x.f2] := by
 obtain ⟨_, _, rfl, rfl, ⟨_, _, rfl, rfl, rfl⟩⟩ := h
 exact rfl
theorem k37_mkM (w : World) (base : Nat) (ok : Nat → Prop) (x : S37)  : k37.M w base ok x [.int .i64 x.f0, .int .i64 x.f1, .int .i64 x.f2] := ⟨[.int .i64 x.f0], [.int .i64 x.f1, .int .i64 x.f2], rfl, rfl, ⟨[.int .i64 x.f1], [.int .i64 x.f2], rfl, rfl, rfl⟩⟩
structure S40 where
 f0 : S37
 f1 : Int
 f2 : ByteArray
 f3 : Int
 f4 : Int
 f5 : ByteArray
 f6 : Int
 f7 : S37
 f8 : (List ByteArray)
 f9 : (List ByteArray)
def z40 : S40 := ⟨z37, (0 : Int), (⟨#[]⟩ : ByteArray), (0 : Int), (0 : Int), (⟨#[]⟩ : ByteArray), (0 : Int), z37, ([] : List ByteArray), ([] : List ByteArray)⟩
def k40 : Kd S40 := Kd.iso (Kd.pair k37 (Kd.pair (Kd.int .i64) (Kd.pair Kd.string (Kd.pair (Kd.int .i64) (Kd.pair (Kd.int .i64) (Kd.pair Kd.string (Kd.pair (Kd.int .i64) (Kd.pair k37 (Kd.pair (Kd.slice 9 Kd.string) (Kd.slice 9 Kd.string)))))))))) (fun x : S40 => (x.f0, x.f1, x.f2, x.f3, x.f4, x.f5, x.f6, x.f7, x.f8, x.f9))
theorem k40_open {w : World} {x : S40} {cs : List Value} (h : k40.K w x cs) : ∃ A12 c12 A13 c13, cs = [.int .i64 x.f0.f0, .int .i64 x.f0.f1, .int .i64 x.f0.f2, .int .i64 x.f1, .string x.f2, .int .i64 x.f3, .int .i64 x.f4, .string x.f5, .int .i64 x.f6, .int .i64 x.f7.f0, .int .i64 x.f7.f1, .int .i64 x.f7.f2, .slice A12 x.f8.length c12, .slice A13 x.f9.length c13] ∧ x.f8.length ≤ c12 ∧ Kd.string.C w A12 x.f8.length x.f8 ∧ x.f9.length ≤ c13 ∧ Kd.string.C w A13 x.f9.length x.f9 := by
 obtain ⟨_, _, rfl, s0, ⟨_, _, rfl, rfl, ⟨_, _, rfl, rfl, ⟨_, _, rfl, rfl, ⟨_, _, rfl, rfl, ⟨_, _, rfl, rfl, ⟨_, _, rfl, rfl, ⟨_, _, rfl, s9, ⟨_, _, rfl, ⟨A12, c12, rfl, l12, g12⟩, ⟨A13, c13, rfl, l13, g13⟩⟩⟩⟩⟩⟩⟩⟩⟩⟩ := h
 obtain rfl := k37_open s0
 obtain rfl := k37_open s9
 exact ⟨A12, c12, A13, c13, rfl, l12, g12, l13, g13⟩
theorem k40_openM {w : World} {base : Nat} {ok : Nat → Prop} {x : S40} {cs : List Value} (h : k40.M w base ok x cs) : ∃ v12 v13, cs = [.int .i64 x.f0.f0, .int .i64 x.f0.f1, .int .i64 x.f0.f2, .int .i64 x.f1, .string x.f2, .int .i64 x.f3, .int .i64 x.f4, .string x.f5, .int .i64 x.f6, .int .i64 x.f7.f0, .int .i64 x.f7.f1, .int .i64 x.f7.f2, v12, v13] ∧ Kd.string.R 9 w base ok v12 x.f8 ∧ Kd.string.R 9 w base ok v13 x.f9 := by
 obtain ⟨_, _, rfl, s0, ⟨_, _, rfl, rfl, ⟨_, _, rfl, rfl, ⟨_, _, rfl, rfl, ⟨_, _, rfl, rfl, ⟨_, _, rfl, rfl, ⟨_, _, rfl, rfl, ⟨_, _, rfl, s9, ⟨_, _, rfl, ⟨v12, rfl, g12⟩, ⟨v13, rfl, g13⟩⟩⟩⟩⟩⟩⟩⟩⟩⟩ := h
 obtain rfl := k37_openM s0
 obtain rfl := k37_openM s9
 exact ⟨v12, v13, rfl, g12, g13⟩
theorem k40_mkM (w : World) (base : Nat) (ok : Nat → Prop) (x : S40) {v12 : Value} (g12 : Kd.string.R 9 w base ok v12 x.f8) {v13 : Value} (g13 : Kd.string.R 9 w base ok v13 x.f9) : k40.M w base ok x [.int .i64 x.f0.f0, .int .i64 x.f0.f1, .int .i64 x.f0.f2, .int .i64 x.f1, .string x.f2, .int .i64 x.f3, .int .i64 x.f4, .string x.f5, .int .i64 x.f6, .int .i64 x.f7.f0, .int .i64 x.f7.f1, .int .i64 x.f7.f2, v12, v13] := ⟨[.int .i64 x.f0.f0, .int .i64 x.f0.f1, .int .i64 x.f0.f2], [.int .i64 x.f1, .string x.f2, .int .i64 x.f3, .int .i64 x.f4, .string x.f5, .int .i64 x.f6, .int .i64 x.f7.f0, .int .i64 x.f7.f1, .int .i64 x.f7.f2, v12, v13], rfl, (k37_mkM w base ok x.f0 ), ⟨[.int .i64 x.f1], [.string x.f2, .int .i64 x.f3, .int .i64 x.f4, .string x.f5, .int .i64 x.f6, .int .i64 x.f7.f0, .int .i64 x.f7.f1, .int .i64 x.f7.f2, v12, v13], rfl, rfl, ⟨[.string x.f2], [.int .i64 x.f3, .int .i64 x.f4, .string x.f5, .int .i64 x.f6, .int .i64 x.f7.f0, .int .i64 x.f7.f1, .int .i64 x.f7.f2, v12, v13], rfl, rfl, ⟨[.int .i64 x.f3], [.int .i64 x.f4, .string x.f5, .int .i64 x.f6, .int .i64 x.f7.f0, .int .i64 x.f7.f1, .int .i64 x.f7.f2, v12, v13], rfl, rfl, ⟨[.int .i64 x.f4], [.string x.f5, .int .i64 x.f6, .int .i64 x.f7.f0, .int .i64 x.f7.f1, .int .i64 x.f7.f2, v12, v13], rfl, rfl, ⟨[.string x.f5], [.int .i64 x.f6, .int .i64 x.f7.f0, .int .i64 x.f7.f1, .int .i64 x.f7.f2, v12, v13], rfl, rfl, ⟨[.int .i64 x.f6], [.int .i64 x.f7.f0, .int .i64 x.f7.f1, .int .i64 x.f7.f2, v12, v13], rfl, rfl, ⟨[.int .i64 x.f7.f0, .int .i64 x.f7.f1, .int .i64 x.f7.f2], [v12, v13], rfl, (k37_mkM w base ok x.f7 ), ⟨[v12], [v13], rfl, ⟨v12, rfl, g12⟩, ⟨v13, rfl, g13⟩⟩⟩⟩⟩⟩⟩⟩⟩⟩
def rd_T40 (xs : List S40) (i : Int) : S40 := xs.getD i.toNat z40
theorem at_T40 {w : World} {A : Option Addr} {n : Nat} {xs : List S40} (h : Kd.C k40 w A n xs) (i : Int) (h0 : 0 ≤ i) (h1 : i < n) : ∃ ad A12 c12 A13 c13, A = some ad ∧ w.cell? (ad.add (i.toNat * 14)) = some (.int .i64 (rd_T40 xs i).f0.f0) ∧ w.cell? ⟨(ad.add (i.toNat * 14)).block, (ad.add (i.toNat * 14)).off + 1, none⟩ = some (.int .i64 (rd_T40 xs i).f0.f1) ∧ w.cell? ⟨(ad.add (i.toNat * 14)).block, (ad.add (i.toNat * 14)).off + 2, none⟩ = some (.int .i64 (rd_T40 xs i).f0.f2) ∧ w.cell? ⟨(ad.add (i.toNat * 14)).block, (ad.add (i.toNat * 14)).off + 3, none⟩ = some (.int .i64 (rd_T40 xs i).f1) ∧ w.cell? ⟨(ad.add (i.toNat * 14)).block, (ad.add (i.toNat * 14)).off + 4, none⟩ = some (.string (rd_T40 xs i).f2) ∧ w.cell? ⟨(ad.add (i.toNat * 14)).block, (ad.add (i.toNat * 14)).off + 5, none⟩ = some (.int .i64 (rd_T40 xs i).f3) ∧ w.cell? ⟨(ad.add (i.toNat * 14)).block, (ad.add (i.toNat * 14)).off + 6, none⟩ = some (.int .i64 (rd_T40 xs i).f4) ∧ w.cell? ⟨(ad.add (i.toNat * 14)).block, (ad.add (i.toNat * 14)).off + 7, none⟩ = some (.string (rd_T40 xs i).f5) ∧ w.cell? ⟨(ad.add (i.toNat * 14)).block, (ad.add (i.toNat * 14)).off + 8, none⟩ = some (.int .i64 (rd_T40 xs i).f6) ∧ w.cell? ⟨(ad.add (i.toNat * 14)).block, (ad.add (i.toNat * 14)).off + 9, none⟩ = some (.int .i64 (rd_T40 xs i).f7.f0) ∧ w.cell? ⟨(ad.add (i.toNat * 14)).block, (ad.add (i.toNat * 14)).off + 10, none⟩ = some (.int .i64 (rd_T40 xs i).f7.f1) ∧ w.cell? ⟨(ad.add (i.toNat * 14)).block, (ad.add (i.toNat * 14)).off + 11, none⟩ = some (.int .i64 (rd_T40 xs i).f7.f2) ∧ w.cell? ⟨(ad.add (i.toNat * 14)).block, (ad.add (i.toNat * 14)).off + 12, none⟩ = some (.slice A12 (rd_T40 xs i).f8.length c12) ∧ w.cell? ⟨(ad.add (i.toNat * 14)).block, (ad.add (i.toNat * 14)).off + 13, none⟩ = some (.slice A13 (rd_T40 xs i).f9.length c13) ∧ (rd_T40 xs i).f8.length ≤ c12 ∧ Kd.string.C w A12 (rd_T40 xs i).f8.length (rd_T40 xs i).f8 ∧ (rd_T40 xs i).f9.length ≤ c13 ∧ Kd.string.C w A13 (rd_T40 xs i).f9.length (rd_T40 xs i).f9 := by
 obtain ⟨ad, c, e, _, hK, hc0⟩ := Kd.C_get h z40 i h0 h1
 have hc : ∀ j u, c[j]? = some u → w.cell? (ad.add (i.toNat * 14 + j)) = some u := hc0
 obtain ⟨A12, c12, A13, c13, rfl, l12, g12, l13, g13⟩ := k40_open hK
 exact ⟨ad, A12, c12, A13, c13, e, hc 0 _ rfl, by rw [← add_field _ _ 1 (by omega)]; exact hc 1 _ rfl, by rw [← add_field _ _ 2 (by omega)]; exact hc 2 _ rfl, by rw [← add_field _ _ 3 (by omega)]; exact hc 3 _ rfl, by rw [← add_field _ _ 4 (by omega)]; exact hc 4 _ rfl, by rw [← add_field _ _ 5 (by omega)]; exact hc 5 _ rfl, by rw [← add_field _ _ 6 (by omega)]; exact hc 6 _ rfl, by rw [← add_field _ _ 7 (by omega)]; exact hc 7 _ rfl, by rw [← add_field _ _ 8 (by omega)]; exact hc 8 _ rfl, by rw [← add_field _ _ 9 (by omega)]; exact hc 9 _ rfl, by rw [← add_field _ _ 10 (by omega)]; exact hc 10 _ rfl, by rw [← add_field _ _ 11 (by omega)]; exact hc 11 _ rfl, by rw [← add_field _ _ 12 (by omega)]; exact hc 12 _ rfl, by rw [← add_field _ _ 13 (by omega)]; exact hc 13 _ rfl, l12, g12, l13, g13⟩
structure S25 where
 f0 : Int
 f1 : (List S40)
structure S54 where
 f0 : ByteArray
 f1 : Int
 f2 : Bool
theorem eqA37 (d : Nat) (w : World) (x0 y0 : Int) (x1 y1 : Int) (x2 y2 : Int) :
  (Op.equalIn (d + 2) 37 (.agg #[.int .i64 x0, .int .i64 x1, .int .i64 x2]) (.agg #[.int .i64 y0, .int .i64 y1, .int .i64 y2])).run Tryd.prog w = .ok (x0 == y0 && (x1 == y1 && (x2 == y2))) w := by
 refine eqA_of Tryd.underlying37 (by kernel_rfl) ?_
 refine eqf_cons (by rfl) (by go_simp; rfl) (by go_simp; rfl) (by go_simp) ?_
 refine eqf_cons (by rfl) (by go_simp; rfl) (by go_simp; rfl) (by go_simp) ?_
 exact eqf_last (by rfl) (by go_simp; rfl) (by go_simp; rfl) (by go_simp)
def computusref23_Texts.l0 : Nat → List ByteArray → List ByteArray → Int → Option (Bool)
 | 0, _, _, _ => none
 | k + 1, x0, x1, x5 => if x5 < (x0.length : Int) then (if 0 ≤ x5 then (if x5 < (x1.length : Int) then (if (rdOf ByteArray.empty x0 x5).toList = (rdOf ByteArray.empty x1 x5).toList then (computusref23_Texts.l0 k x0 x1 (wrap64 (x5 + 1))) else (some false)) else (none)) else (none)) else (some true)
def computusref23_Texts.f (k : Nat) (l0 : List ByteArray) (l1 : List ByteArray) : Option (Bool) := if (l0.length : Int) = (l1.length : Int) then (computusref23_Texts.l0 k l0 l1 0) else (some false)
theorem computusref23_Texts.mono_l : ∀ k, (∀ y0 y1 y2, LeO (computusref23_Texts.l0 k y0 y1 y2) (computusref23_Texts.l0 (k + 1) y0 y1 y2))
 | 0 => fun _ _ _ r h => by simp [computusref23_Texts.l0] at h
 | k + 1 => by
  have ih0 := computusref23_Texts.mono_l k
  ·intro y0 y1 y2
   unfold computusref23_Texts.l0
   repeat' first | (with_reducible first | exact ih0 _ _ _ | exact lr_ _ | exact ln_ _ | refine li_ ?_ ?_ | refine lb_ ?_ fun _ => ?_) | exact ln_ _ | refine li_ ?_ ?_ | refine lb_ ?_ fun _ => ?_
theorem computusref23_Texts.mono : ∀ a0 a1 k, LeO (computusref23_Texts.f k a0 a1) (computusref23_Texts.f (k + 1) a0 a1) := by
 intro a0 a1 k
 have ih0 := computusref23_Texts.mono_l k
 unfold computusref23_Texts.f
 repeat' first | (with_reducible first | exact ih0 _ _ _ | exact lr_ _ | exact ln_ _ | refine li_ ?_ ?_ | refine lb_ ?_ fun _ => ?_) | exact ln_ _ | refine li_ ?_ ?_ | refine lb_ ?_ fun _ => ?_
theorem computusref23_Texts.calls (k : Nat) (A0 : Option Addr) (c0 : Nat) (l0 : List ByteArray) (A1 : Option Addr) (c1 : Nat) (l1 : List ByteArray) (r : Bool) (w : World) (hr0 : Kd.C Kd.string w A0 l0.length l0) (hc0 : l0.length ≤ c0) (hr1 : Kd.C Kd.string w A1 l1.length l1) (hc1 : l1.length ≤ c1) (h : computusref23_Texts.f k l0 l1 = some r) :
  Calls Tryd.prog 42 #[.slice A0 l0.length c0, .slice A1 l1.length c1] w fun e w' => e = .returned (.bool r) ∧ Drawn0 w w' := by
 have HR0 := am_ hr0
 have HC0 := am_ hc0
 clear hr0 hc0
 have HR1 := am_ hr1
 have HC1 := am_ hc1
 clear hr1 hc1
 have H := h
 clear h
 unfold computusref23_Texts.f at H
 by_cases c3 : (l0.length : Int) = (l1.length : Int)
 rotate_left
 ·rw [if_neg c3] at H
  have c3b0 : ((l0.length : Int) == (l1.length : Int)) = false := beq_eq_false_iff_ne.mpr c3
  have c3b1 : ((l0.length : Int) != (l1.length : Int)) = true := bne_iff_ne.mpr c3
  have c3b2 : (l0.length == l1.length) = false := by first | simpa using c3 | (simp at c3 ⊢; omega)
  obtain rfl := Option.some.inj H
  go_enter Tryd.func42, Tryd.ntmps42
  go_wp2
  repeat (go_quiet (fail); try go_wp2)
  go_ret
  exact ⟨by first | rfl | (simp; done) | (simp [*]; done), by repeat (first | exact Drawn0.refl _ | apply Drawn0.step)⟩
 rw [if_pos c3] at H
 have c3b0 : ((l0.length : Int) == (l1.length : Int)) = true := beq_iff_eq.mpr c3
 have c3b1 : ((l0.length : Int) != (l1.length : Int)) = false := bne_eq_false_iff_eq.mpr c3
 have c3b2 : (l0.length == l1.length) = true := by first | simpa using c3 | (simp at c3 ⊢; omega)
 clear c3
 have H' := am_ H
 clear H
 go_enter Tryd.func42, Tryd.ntmps42
 go_wp2
 repeat (go_quiet (fail); try go_wp2)
 go_loopg [5] k (fun kq v5 w' => ∃ (x5_1 : Int), v5 = .int .i64 x5_1 ∧ Aside0 (computusref23_Texts.l0 kq l0 l1 x5_1 = some r) ∧ Aside0 (kq ≤ k) ∧ Drawn0 w w')
 case atStart => exact ⟨(0), rs_, H', ⟨Nat.le_refl _⟩, by repeat (first | exact Drawn0.refl _ | apply Drawn0.step)⟩
 case round =>
  clear H'
  obtain ⟨x5_1, rfl, HA, HK1, ⟨m1, rfl⟩⟩ := hrel
  cases gk with
  | zero => exact absurd HA.out (by simp [computusref23_Texts.l0])
  | succ k1 =>
   have H := HA.out
   clear HA
   simp only [computusref23_Texts.l0] at H
   by_cases c4 : x5_1 < (l0.length : Int)
   rotate_left
   ·rw [if_neg c4] at H
    have c4b0 : decide (x5_1 < (l0.length : Int)) = false := decide_eq_false c4
    clear c4
    obtain rfl := Option.some.inj H
    go_wp2
    repeat (go_quiet (fail); try go_wp2)
    go_ret
    exact ⟨by first | rfl | (simp; done) | (simp [*]; done), by repeat (first | exact Drawn0.refl _ | apply Drawn0.step)⟩
   rw [if_pos c4] at H
   have c4b0 : decide (x5_1 < (l0.length : Int)) = true := decide_eq_true c4
   clear c4
   by_cases c5 : 0 ≤ x5_1
   rotate_left
   ·rw [if_neg c5] at H
    exact absurd H (by simp)
   rw [if_pos c5] at H
   have c5b0 : decide (0 ≤ x5_1) = true := decide_eq_true c5
   clear c5
   by_cases c6 : x5_1 < (l1.length : Int)
   rotate_left
   ·rw [if_neg c6] at H
    exact absurd H (by simp)
   rw [if_pos c6] at H
   have c6b0 : decide (x5_1 < (l1.length : Int)) = true := decide_eq_true c6
   clear c6
   by_cases c7 : (rdOf ByteArray.empty l0 x5_1).toList = (rdOf ByteArray.empty l1 x5_1).toList
   rotate_left
   ·rw [if_neg c7] at H
    have c7b0 : ((rdOf ByteArray.empty l0 x5_1).toList == (rdOf ByteArray.empty l1 x5_1).toList) = false := beq_eq_false_iff_ne.mpr c7
    have c7b1 : ((rdOf ByteArray.empty l0 x5_1).toList != (rdOf ByteArray.empty l1 x5_1).toList) = true := bne_iff_ne.mpr c7
    obtain rfl := Option.some.inj H
    have p102 : 0 ≤ (x5_1 : Int) := of_decide_eq_true as_
    have q102 : x5_1 < (l0.length : Int) := of_decide_eq_true as_
    obtain ⟨ad102, e102, hx102_0⟩ := Kd.at_string HR0.out x5_1 p102 q102
    cases e102
    replace p102 := eq_true p102
    replace q102 := eq_true q102
    have p103 : 0 ≤ (x5_1 : Int) := of_decide_eq_true as_
    have q103 : x5_1 < (l1.length : Int) := of_decide_eq_true as_
    obtain ⟨ad103, e103, hx103_0⟩ := Kd.at_string HR1.out x5_1 p103 q103
    cases e103
    replace p103 := eq_true p103
    replace q103 := eq_true q103
    go_wp2
    repeat (go_quiet (fail); try go_wp2)
    go_ret
    exact ⟨by first | rfl | (simp; done) | (simp [*]; done), by repeat (first | exact Drawn0.refl _ | apply Drawn0.step)⟩
   rw [if_pos c7] at H
   have c7b0 : ((rdOf ByteArray.empty l0 x5_1).toList == (rdOf ByteArray.empty l1 x5_1).toList) = true := beq_iff_eq.mpr c7
   have c7b1 : ((rdOf ByteArray.empty l0 x5_1).toList != (rdOf ByteArray.empty l1 x5_1).toList) = false := bne_eq_false_iff_eq.mpr c7
   clear c7
   have H' := am_ H
   clear H
   have p102 : 0 ≤ (x5_1 : Int) := of_decide_eq_true as_
   have q102 : x5_1 < (l0.length : Int) := of_decide_eq_true as_
   obtain ⟨ad102, e102, hx102_0⟩ := Kd.at_string HR0.out x5_1 p102 q102
   cases e102
   replace p102 := eq_true p102
   replace q102 := eq_true q102
   have p103 : 0 ≤ (x5_1 : Int) := of_decide_eq_true as_
   have q103 : x5_1 < (l1.length : Int) := of_decide_eq_true as_
   obtain ⟨ad103, e103, hx103_0⟩ := Kd.at_string HR1.out x5_1 p103 q103
   cases e103
   replace p103 := eq_true p103
   replace q103 := eq_true q103
   go_wp2
   repeat (go_quiet (fail); try go_wp2)
   go_roundg k1
   case measure => have := HK1.out; omega
   case rel => exact ⟨(wrap64 (x5_1 + 1)), rs_, H', ⟨by have := HK1.out; omega⟩, by repeat (first | exact Drawn0.refl _ | apply Drawn0.step)⟩
section
attribute [local go_sem high] eqA37
def computusref23_SameEntry.f (k : Nat) (a0_0 : Int) (a0_1 : Int) (a0_2 : Int) (a0_3 : Int) (a0_4 : ByteArray) (a0_5 : Int) (a0_6 : Int) (a0_7 : ByteArray) (a0_8 : Int) (a0_9 : Int) (a0_10 : Int) (a0_11 : Int) (l0_12 : List ByteArray) (l0_13 : List ByteArray) (a1_0 : Int) (a1_1 : Int) (a1_2 : Int) (a1_3 : Int) (a1_4 : ByteArray) (a1_5 : Int) (a1_6 : Int) (a1_7 : ByteArray) (a1_8 : Int) (a1_9 : Int) (a1_10 : Int) (a1_11 : Int) (l1_12 : List ByteArray) (l1_13 : List ByteArray) : Option (Bool) := if (a0_0 == a1_0 && (a0_1 == a1_1 && (a0_2 == a1_2))) = true then (if a0_3 = a1_3 then (if a0_4.toList = a1_4.toList then (if a0_5 = a1_5 then (if a0_6 = a1_6 then (if a0_7.toList = a1_7.toList then (if a0_8 = a1_8 then (if (a0_9 == a1_9 && (a0_10 == a1_10 && (a0_11 == a1_11))) = true then ((computusref23_Texts.f k l0_12 l1_12).bind fun t106 => (if t106 = true then ((computusref23_Texts.f k l0_13 l1_13).bind fun t107 => (some t107)) else (some false))) else (some false)) else (some false)) else (some false)) else (some false)) else (some false)) else (some false)) else (some false)) else (some false)
theorem computusref23_SameEntry.mono : ∀ a0 a1 a2 a3 a4 a5 a6 a7 a8 a9 a10 a11 a12 a13 a14 a15 a16 a17 a18 a19 a20 a21 a22 a23 a24 a25 a26 a27 k, LeO (computusref23_SameEntry.f k a0 a1 a2 a3 a4 a5 a6 a7 a8 a9 a10 a11 a12 a13 a14 a15 a16 a17 a18 a19 a20 a21 a22 a23 a24 a25 a26 a27) (computusref23_SameEntry.f (k + 1) a0 a1 a2 a3 a4 a5 a6 a7 a8 a9 a10 a11 a12 a13 a14 a15 a16 a17 a18 a19 a20 a21 a22 a23 a24 a25 a26 a27) := by
 intro a0 a1 a2 a3 a4 a5 a6 a7 a8 a9 a10 a11 a12 a13 a14 a15 a16 a17 a18 a19 a20 a21 a22 a23 a24 a25 a26 a27 k
 unfold computusref23_SameEntry.f
 repeat' first | (with_reducible first | exact computusref23_Texts.mono _ _ _ | exact lr_ _ | exact ln_ _ | refine li_ ?_ ?_ | refine lb_ ?_ fun _ => ?_) | exact ln_ _ | refine li_ ?_ ?_ | refine lb_ ?_ fun _ => ?_
theorem computusref23_SameEntry.calls (k : Nat) (a0_0 : Int) (a0_1 : Int) (a0_2 : Int) (a0_3 : Int) (a0_4 : ByteArray) (a0_5 : Int) (a0_6 : Int) (a0_7 : ByteArray) (a0_8 : Int) (a0_9 : Int) (a0_10 : Int) (a0_11 : Int) (A0_12 : Option Addr) (c0_12 : Nat) (l0_12 : List ByteArray) (A0_13 : Option Addr) (c0_13 : Nat) (l0_13 : List ByteArray) (a1_0 : Int) (a1_1 : Int) (a1_2 : Int) (a1_3 : Int) (a1_4 : ByteArray) (a1_5 : Int) (a1_6 : Int) (a1_7 : ByteArray) (a1_8 : Int) (a1_9 : Int) (a1_10 : Int) (a1_11 : Int) (A1_12 : Option Addr) (c1_12 : Nat) (l1_12 : List ByteArray) (A1_13 : Option Addr) (c1_13 : Nat) (l1_13 : List ByteArray) (r : Bool) (w : World) (hr0_12 : Kd.C Kd.string w A0_12 l0_12.length l0_12) (hc0_12 : l0_12.length ≤ c0_12) (hr0_13 : Kd.C Kd.string w A0_13 l0_13.length l0_13) (hc0_13 : l0_13.length ≤ c0_13) (hr1_12 : Kd.C Kd.string w A1_12 l1_12.length l1_12) (hc1_12 : l1_12.length ≤ c1_12) (hr1_13 : Kd.C Kd.string w A1_13 l1_13.length l1_13) (hc1_13 : l1_13.length ≤ c1_13) (h : computusref23_SameEntry.f k a0_0 a0_1 a0_2 a0_3 a0_4 a0_5 a0_6 a0_7 a0_8 a0_9 a0_10 a0_11 l0_12 l0_13 a1_0 a1_1 a1_2 a1_3 a1_4 a1_5 a1_6 a1_7 a1_8 a1_9 a1_10 a1_11 l1_12 l1_13 = some r) :
  Calls Tryd.prog 18 #[.agg #[.int .i64 a0_0, .int .i64 a0_1, .int .i64 a0_2, .int .i64 a0_3, .string a0_4, .int .i64 a0_5, .int .i64 a0_6, .string a0_7, .int .i64 a0_8, .int .i64 a0_9, .int .i64 a0_10, .int .i64 a0_11, .slice A0_12 l0_12.length c0_12, .slice A0_13 l0_13.length c0_13], .agg #[.int .i64 a1_0, .int .i64 a1_1, .int .i64 a1_2, .int .i64 a1_3, .string a1_4, .int .i64 a1_5, .int .i64 a1_6, .string a1_7, .int .i64 a1_8, .int .i64 a1_9, .int .i64 a1_10, .int .i64 a1_11, .slice A1_12 l1_12.length c1_12, .slice A1_13 l1_13.length c1_13]] w fun e w' => e = .returned (.bool r) ∧ Below w.heap.size w w' := by
 have hu40 := Tryd.underlying40
 have hu37 := Tryd.underlying37
 have HR0_12 := am_ hr0_12
 have HC0_12 := am_ hc0_12
 clear hr0_12 hc0_12
 have HR0_13 := am_ hr0_13
 have HC0_13 := am_ hc0_13
 clear hr0_13 hc0_13
 have HR1_12 := am_ hr1_12
 have HC1_12 := am_ hc1_12
 clear hr1_12 hc1_12
 have HR1_13 := am_ hr1_13
 have HC1_13 := am_ hc1_13
 clear hr1_13 hc1_13
 have HB := am_ (Below.refl w.heap.size w)
 have H := h
 clear h
 unfold computusref23_SameEntry.f at H
 by_cases c3 : (a0_0 == a1_0 && (a0_1 == a1_1 && (a0_2 == a1_2))) = true
 rotate_left
 ·rw [if_neg c3] at H
  have c3b0 : (a0_0 == a1_0 && (a0_1 == a1_1 && (a0_2 == a1_2))) = false := by simpa using c3
  (try (have c3b1 : decide (a0_0 = a1_0 && (a0_1 == a1_1 && (a0_2 == a1_2))) = false := by simpa using c3))
  (try (have c3b2 : (a0_0 == a1_0 && (a0_1 == a1_1 && (a0_2 == a1_2))) = false := by simpa using c3))
  (try (have c3b3 : ¬ (a0_0 = a1_0 && (a0_1 == a1_1 && (a0_2 == a1_2))) := by simpa using c3))
  clear c3
  obtain rfl := Option.some.inj H
  go_enter Tryd.func18, Tryd.ntmps18
  go_wp2_with (first | ((with_reducible refine gate_dst (N := 2) rfl ?_); refine bx_ (w := w) (N := 2) (cs := #[.int .i64 a0_0, .int .i64 a0_1, .int .i64 a0_2, .int .i64 a0_3, .string a0_4, .int .i64 a0_5, .int .i64 a0_6, .string a0_7, .int .i64 a0_8, .int .i64 a0_9, .int .i64 a0_10, .int .i64 a0_11, .slice A0_12 l0_12.length c0_12, .slice A0_13 l0_13.length c0_13]) (t := 40) ?_; intro gb104 w59 BK104 n0_ GW104 GE104; clear HB; have HB := n0_; clear n0_) | ((with_reducible refine gate_dst (N := 3) rfl ?_); refine be_ (N := 3) (cs := #[.int .i64 a1_0, .int .i64 a1_1, .int .i64 a1_2, .int .i64 a1_3, .string a1_4, .int .i64 a1_5, .int .i64 a1_6, .string a1_7, .int .i64 a1_8, .int .i64 a1_9, .int .i64 a1_10, .int .i64 a1_11, .slice A1_12 l1_12.length c1_12, .slice A1_13 l1_13.length c1_13]) (t := 40) ?_; intro gb105 hg w60 hbox hb; have BK105 := am_ (hbox); have GW105 := gw_ (w := w) hg; have GE105 := gw_ (w := w) hg; replace HB := bt_ hb; have NB104_105 := ne_ hg BK104; have NB105_104 := nf_ hg BK104; replace BK104 := bw_ BK104 hb; clear hb hbox hg; have hnb61 := NB104_105.out; have hnc61 := NB105_104.out; have hcz62_0 : w60.cell? ⟨gb104, 0, none⟩ = some (.int .i64 a0_0) := (blk_cell BK104.out 0).trans rfl; have hcz62_1 : w60.cell? ⟨gb104, 1, none⟩ = some (.int .i64 a0_1) := (blk_cell BK104.out 1).trans rfl; have hcz62_2 : w60.cell? ⟨gb104, 2, none⟩ = some (.int .i64 a0_2) := (blk_cell BK104.out 2).trans rfl; have hcz62_3 : w60.cell? ⟨gb104, 3, none⟩ = some (.int .i64 a0_3) := (blk_cell BK104.out 3).trans rfl; have hcz62_4 : w60.cell? ⟨gb104, 4, none⟩ = some (.string a0_4) := (blk_cell BK104.out 4).trans rfl; have hcz62_5 : w60.cell? ⟨gb104, 5, none⟩ = some (.int .i64 a0_5) := (blk_cell BK104.out 5).trans rfl; have hcz62_6 : w60.cell? ⟨gb104, 6, none⟩ = some (.int .i64 a0_6) := (blk_cell BK104.out 6).trans rfl; have hcz62_7 : w60.cell? ⟨gb104, 7, none⟩ = some (.string a0_7) := (blk_cell BK104.out 7).trans rfl; have hcz62_8 : w60.cell? ⟨gb104, 8, none⟩ = some (.int .i64 a0_8) := (blk_cell BK104.out 8).trans rfl; have hcz62_9 : w60.cell? ⟨gb104, 9, none⟩ = some (.int .i64 a0_9) := (blk_cell BK104.out 9).trans rfl; have hcz62_10 : w60.cell? ⟨gb104, 10, none⟩ = some (.int .i64 a0_10) := (blk_cell BK104.out 10).trans rfl; have hcz62_11 : w60.cell? ⟨gb104, 11, none⟩ = some (.int .i64 a0_11) := (blk_cell BK104.out 11).trans rfl; have hcz62_12 : w60.cell? ⟨gb104, 12, none⟩ = some (.slice A0_12 l0_12.length c0_12) := (blk_cell BK104.out 12).trans rfl; have hcz62_13 : w60.cell? ⟨gb104, 13, none⟩ = some (.slice A0_13 l0_13.length c0_13) := (blk_cell BK104.out 13).trans rfl; have hfz62_0 := blk_frozen BK104.out 0; have hfz62_1 := blk_frozen BK104.out 1; have hfz62_2 := blk_frozen BK104.out 2; have hfz62_3 := blk_frozen BK104.out 3; have hfz62_4 := blk_frozen BK104.out 4; have hfz62_5 := blk_frozen BK104.out 5; have hfz62_6 := blk_frozen BK104.out 6; have hfz62_7 := blk_frozen BK104.out 7; have hfz62_8 := blk_frozen BK104.out 8; have hfz62_9 := blk_frozen BK104.out 9; have hfz62_10 := blk_frozen BK104.out 10; have hfz62_11 := blk_frozen BK104.out 11; have hfz62_12 := blk_frozen BK104.out 12; have hfz62_13 := blk_frozen BK104.out 13; have hcz63_0 : w60.cell? ⟨gb105, 0, none⟩ = some (.int .i64 a1_0) := (blk_cell BK105.out 0).trans rfl; have hcz63_1 : w60.cell? ⟨gb105, 1, none⟩ = some (.int .i64 a1_1) := (blk_cell BK105.out 1).trans rfl; have hcz63_2 : w60.cell? ⟨gb105, 2, none⟩ = some (.int .i64 a1_2) := (blk_cell BK105.out 2).trans rfl; have hcz63_3 : w60.cell? ⟨gb105, 3, none⟩ = some (.int .i64 a1_3) := (blk_cell BK105.out 3).trans rfl; have hcz63_4 : w60.cell? ⟨gb105, 4, none⟩ = some (.string a1_4) := (blk_cell BK105.out 4).trans rfl; have hcz63_5 : w60.cell? ⟨gb105, 5, none⟩ = some (.int .i64 a1_5) := (blk_cell BK105.out 5).trans rfl; have hcz63_6 : w60.cell? ⟨gb105, 6, none⟩ = some (.int .i64 a1_6) := (blk_cell BK105.out 6).trans rfl; have hcz63_7 : w60.cell? ⟨gb105, 7, none⟩ = some (.string a1_7) := (blk_cell BK105.out 7).trans rfl; have hcz63_8 : w60.cell? ⟨gb105, 8, none⟩ = some (.int .i64 a1_8) := (blk_cell BK105.out 8).trans rfl; have hcz63_9 : w60.cell? ⟨gb105, 9, none⟩ = some (.int .i64 a1_9) := (blk_cell BK105.out 9).trans rfl; have hcz63_10 : w60.cell? ⟨gb105, 10, none⟩ = some (.int .i64 a1_10) := (blk_cell BK105.out 10).trans rfl; have hcz63_11 : w60.cell? ⟨gb105, 11, none⟩ = some (.int .i64 a1_11) := (blk_cell BK105.out 11).trans rfl; have hcz63_12 : w60.cell? ⟨gb105, 12, none⟩ = some (.slice A1_12 l1_12.length c1_12) := (blk_cell BK105.out 12).trans rfl; have hcz63_13 : w60.cell? ⟨gb105, 13, none⟩ = some (.slice A1_13 l1_13.length c1_13) := (blk_cell BK105.out 13).trans rfl; have hfz63_0 := blk_frozen BK105.out 0; have hfz63_1 := blk_frozen BK105.out 1; have hfz63_2 := blk_frozen BK105.out 2; have hfz63_3 := blk_frozen BK105.out 3; have hfz63_4 := blk_frozen BK105.out 4; have hfz63_5 := blk_frozen BK105.out 5; have hfz63_6 := blk_frozen BK105.out 6; have hfz63_7 := blk_frozen BK105.out 7; have hfz63_8 := blk_frozen BK105.out 8; have hfz63_9 := blk_frozen BK105.out 9; have hfz63_10 := blk_frozen BK105.out 10; have hfz63_11 := blk_frozen BK105.out 11; have hfz63_12 := blk_frozen BK105.out 12; have hfz63_13 := blk_frozen BK105.out 13))
  go_ret
  exact rt_
 rw [if_pos c3] at H
 have c3b0 : (a0_0 == a1_0 && (a0_1 == a1_1 && (a0_2 == a1_2))) = true := c3
 (try (have c3b1 : decide (a0_0 = a1_0 && (a0_1 == a1_1 && (a0_2 == a1_2))) = true := by simpa using c3))
 (try (have c3b2 : (a0_0 == a1_0 && (a0_1 == a1_1 && (a0_2 == a1_2))) = true := by simpa using c3))
 clear c3
 by_cases c4 : a0_3 = a1_3
 rotate_left
 ·rw [if_neg c4] at H
  have c4b0 : (a0_3 == a1_3) = false := beq_eq_false_iff_ne.mpr c4
  have c4b1 : (a0_3 != a1_3) = true := bne_iff_ne.mpr c4
  obtain rfl := Option.some.inj H
  go_enter Tryd.func18, Tryd.ntmps18
  go_wp2_with (first | ((with_reducible refine gate_dst (N := 2) rfl ?_); refine bx_ (w := w) (N := 2) (cs := #[.int .i64 a0_0, .int .i64 a0_1, .int .i64 a0_2, .int .i64 a0_3, .string a0_4, .int .i64 a0_5, .int .i64 a0_6, .string a0_7, .int .i64 a0_8, .int .i64 a0_9, .int .i64 a0_10, .int .i64 a0_11, .slice A0_12 l0_12.length c0_12, .slice A0_13 l0_13.length c0_13]) (t := 40) ?_; intro gb104 w54 BK104 n0_ GW104 GE104; clear HB; have HB := n0_; clear n0_) | ((with_reducible refine gate_dst (N := 3) rfl ?_); refine be_ (N := 3) (cs := #[.int .i64 a1_0, .int .i64 a1_1, .int .i64 a1_2, .int .i64 a1_3, .string a1_4, .int .i64 a1_5, .int .i64 a1_6, .string a1_7, .int .i64 a1_8, .int .i64 a1_9, .int .i64 a1_10, .int .i64 a1_11, .slice A1_12 l1_12.length c1_12, .slice A1_13 l1_13.length c1_13]) (t := 40) ?_; intro gb105 hg w55 hbox hb; have BK105 := am_ (hbox); have GW105 := gw_ (w := w) hg; have GE105 := gw_ (w := w) hg; replace HB := bt_ hb; have NB104_105 := ne_ hg BK104; have NB105_104 := nf_ hg BK104; replace BK104 := bw_ BK104 hb; clear hb hbox hg; have hnb56 := NB104_105.out; have hnc56 := NB105_104.out; have hcz57_0 : w55.cell? ⟨gb104, 0, none⟩ = some (.int .i64 a0_0) := (blk_cell BK104.out 0).trans rfl; have hcz57_1 : w55.cell? ⟨gb104, 1, none⟩ = some (.int .i64 a0_1) := (blk_cell BK104.out 1).trans rfl; have hcz57_2 : w55.cell? ⟨gb104, 2, none⟩ = some (.int .i64 a0_2) := (blk_cell BK104.out 2).trans rfl; have hcz57_3 : w55.cell? ⟨gb104, 3, none⟩ = some (.int .i64 a0_3) := (blk_cell BK104.out 3).trans rfl; have hcz57_4 : w55.cell? ⟨gb104, 4, none⟩ = some (.string a0_4) := (blk_cell BK104.out 4).trans rfl; have hcz57_5 : w55.cell? ⟨gb104, 5, none⟩ = some (.int .i64 a0_5) := (blk_cell BK104.out 5).trans rfl; have hcz57_6 : w55.cell? ⟨gb104, 6, none⟩ = some (.int .i64 a0_6) := (blk_cell BK104.out 6).trans rfl; have hcz57_7 : w55.cell? ⟨gb104, 7, none⟩ = some (.string a0_7) := (blk_cell BK104.out 7).trans rfl; have hcz57_8 : w55.cell? ⟨gb104, 8, none⟩ = some (.int .i64 a0_8) := (blk_cell BK104.out 8).trans rfl; have hcz57_9 : w55.cell? ⟨gb104, 9, none⟩ = some (.int .i64 a0_9) := (blk_cell BK104.out 9).trans rfl; have hcz57_10 : w55.cell? ⟨gb104, 10, none⟩ = some (.int .i64 a0_10) := (blk_cell BK104.out 10).trans rfl; have hcz57_11 : w55.cell? ⟨gb104, 11, none⟩ = some (.int .i64 a0_11) := (blk_cell BK104.out 11).trans rfl; have hcz57_12 : w55.cell? ⟨gb104, 12, none⟩ = some (.slice A0_12 l0_12.length c0_12) := (blk_cell BK104.out 12).trans rfl; have hcz57_13 : w55.cell? ⟨gb104, 13, none⟩ = some (.slice A0_13 l0_13.length c0_13) := (blk_cell BK104.out 13).trans rfl; have hfz57_0 := blk_frozen BK104.out 0; have hfz57_1 := blk_frozen BK104.out 1; have hfz57_2 := blk_frozen BK104.out 2; have hfz57_3 := blk_frozen BK104.out 3; have hfz57_4 := blk_frozen BK104.out 4; have hfz57_5 := blk_frozen BK104.out 5; have hfz57_6 := blk_frozen BK104.out 6; have hfz57_7 := blk_frozen BK104.out 7; have hfz57_8 := blk_frozen BK104.out 8; have hfz57_9 := blk_frozen BK104.out 9; have hfz57_10 := blk_frozen BK104.out 10; have hfz57_11 := blk_frozen BK104.out 11; have hfz57_12 := blk_frozen BK104.out 12; have hfz57_13 := blk_frozen BK104.out 13; have hcz58_0 : w55.cell? ⟨gb105, 0, none⟩ = some (.int .i64 a1_0) := (blk_cell BK105.out 0).trans rfl; have hcz58_1 : w55.cell? ⟨gb105, 1, none⟩ = some (.int .i64 a1_1) := (blk_cell BK105.out 1).trans rfl; have hcz58_2 : w55.cell? ⟨gb105, 2, none⟩ = some (.int .i64 a1_2) := (blk_cell BK105.out 2).trans rfl; have hcz58_3 : w55.cell? ⟨gb105, 3, none⟩ = some (.int .i64 a1_3) := (blk_cell BK105.out 3).trans rfl; have hcz58_4 : w55.cell? ⟨gb105, 4, none⟩ = some (.string a1_4) := (blk_cell BK105.out 4).trans rfl; have hcz58_5 : w55.cell? ⟨gb105, 5, none⟩ = some (.int .i64 a1_5) := (blk_cell BK105.out 5).trans rfl; have hcz58_6 : w55.cell? ⟨gb105, 6, none⟩ = some (.int .i64 a1_6) := (blk_cell BK105.out 6).trans rfl; have hcz58_7 : w55.cell? ⟨gb105, 7, none⟩ = some (.string a1_7) := (blk_cell BK105.out 7).trans rfl; have hcz58_8 : w55.cell? ⟨gb105, 8, none⟩ = some (.int .i64 a1_8) := (blk_cell BK105.out 8).trans rfl; have hcz58_9 : w55.cell? ⟨gb105, 9, none⟩ = some (.int .i64 a1_9) := (blk_cell BK105.out 9).trans rfl; have hcz58_10 : w55.cell? ⟨gb105, 10, none⟩ = some (.int .i64 a1_10) := (blk_cell BK105.out 10).trans rfl; have hcz58_11 : w55.cell? ⟨gb105, 11, none⟩ = some (.int .i64 a1_11) := (blk_cell BK105.out 11).trans rfl; have hcz58_12 : w55.cell? ⟨gb105, 12, none⟩ = some (.slice A1_12 l1_12.length c1_12) := (blk_cell BK105.out 12).trans rfl; have hcz58_13 : w55.cell? ⟨gb105, 13, none⟩ = some (.slice A1_13 l1_13.length c1_13) := (blk_cell BK105.out 13).trans rfl; have hfz58_0 := blk_frozen BK105.out 0; have hfz58_1 := blk_frozen BK105.out 1; have hfz58_2 := blk_frozen BK105.out 2; have hfz58_3 := blk_frozen BK105.out 3; have hfz58_4 := blk_frozen BK105.out 4; have hfz58_5 := blk_frozen BK105.out 5; have hfz58_6 := blk_frozen BK105.out 6; have hfz58_7 := blk_frozen BK105.out 7; have hfz58_8 := blk_frozen BK105.out 8; have hfz58_9 := blk_frozen BK105.out 9; have hfz58_10 := blk_frozen BK105.out 10; have hfz58_11 := blk_frozen BK105.out 11; have hfz58_12 := blk_frozen BK105.out 12; have hfz58_13 := blk_frozen BK105.out 13))
  go_ret
  exact rt_
 rw [if_pos c4] at H
 have c4b0 : (a0_3 == a1_3) = true := beq_iff_eq.mpr c4
 have c4b1 : (a0_3 != a1_3) = false := bne_eq_false_iff_eq.mpr c4
 clear c4
 by_cases c5 : a0_4.toList = a1_4.toList
 rotate_left
 ·rw [if_neg c5] at H
  have c5b0 : (a0_4.toList == a1_4.toList) = false := beq_eq_false_iff_ne.mpr c5
  have c5b1 : (a0_4.toList != a1_4.toList) = true := bne_iff_ne.mpr c5
  obtain rfl := Option.some.inj H
  go_enter Tryd.func18, Tryd.ntmps18
  go_wp2_with (first | ((with_reducible refine gate_dst (N := 2) rfl ?_); refine bx_ (w := w) (N := 2) (cs := #[.int .i64 a0_0, .int .i64 a0_1, .int .i64 a0_2, .int .i64 a0_3, .string a0_4, .int .i64 a0_5, .int .i64 a0_6, .string a0_7, .int .i64 a0_8, .int .i64 a0_9, .int .i64 a0_10, .int .i64 a0_11, .slice A0_12 l0_12.length c0_12, .slice A0_13 l0_13.length c0_13]) (t := 40) ?_; intro gb104 w49 BK104 n0_ GW104 GE104; clear HB; have HB := n0_; clear n0_) | ((with_reducible refine gate_dst (N := 3) rfl ?_); refine be_ (N := 3) (cs := #[.int .i64 a1_0, .int .i64 a1_1, .int .i64 a1_2, .int .i64 a1_3, .string a1_4, .int .i64 a1_5, .int .i64 a1_6, .string a1_7, .int .i64 a1_8, .int .i64 a1_9, .int .i64 a1_10, .int .i64 a1_11, .slice A1_12 l1_12.length c1_12, .slice A1_13 l1_13.length c1_13]) (t := 40) ?_; intro gb105 hg w50 hbox hb; have BK105 := am_ (hbox); have GW105 := gw_ (w := w) hg; have GE105 := gw_ (w := w) hg; replace HB := bt_ hb; have NB104_105 := ne_ hg BK104; have NB105_104 := nf_ hg BK104; replace BK104 := bw_ BK104 hb; clear hb hbox hg; have hnb51 := NB104_105.out; have hnc51 := NB105_104.out; have hcz52_0 : w50.cell? ⟨gb104, 0, none⟩ = some (.int .i64 a0_0) := (blk_cell BK104.out 0).trans rfl; have hcz52_1 : w50.cell? ⟨gb104, 1, none⟩ = some (.int .i64 a0_1) := (blk_cell BK104.out 1).trans rfl; have hcz52_2 : w50.cell? ⟨gb104, 2, none⟩ = some (.int .i64 a0_2) := (blk_cell BK104.out 2).trans rfl; have hcz52_3 : w50.cell? ⟨gb104, 3, none⟩ = some (.int .i64 a0_3) := (blk_cell BK104.out 3).trans rfl; have hcz52_4 : w50.cell? ⟨gb104, 4, none⟩ = some (.string a0_4) := (blk_cell BK104.out 4).trans rfl; have hcz52_5 : w50.cell? ⟨gb104, 5, none⟩ = some (.int .i64 a0_5) := (blk_cell BK104.out 5).trans rfl; have hcz52_6 : w50.cell? ⟨gb104, 6, none⟩ = some (.int .i64 a0_6) := (blk_cell BK104.out 6).trans rfl; have hcz52_7 : w50.cell? ⟨gb104, 7, none⟩ = some (.string a0_7) := (blk_cell BK104.out 7).trans rfl; have hcz52_8 : w50.cell? ⟨gb104, 8, none⟩ = some (.int .i64 a0_8) := (blk_cell BK104.out 8).trans rfl; have hcz52_9 : w50.cell? ⟨gb104, 9, none⟩ = some (.int .i64 a0_9) := (blk_cell BK104.out 9).trans rfl; have hcz52_10 : w50.cell? ⟨gb104, 10, none⟩ = some (.int .i64 a0_10) := (blk_cell BK104.out 10).trans rfl; have hcz52_11 : w50.cell? ⟨gb104, 11, none⟩ = some (.int .i64 a0_11) := (blk_cell BK104.out 11).trans rfl; have hcz52_12 : w50.cell? ⟨gb104, 12, none⟩ = some (.slice A0_12 l0_12.length c0_12) := (blk_cell BK104.out 12).trans rfl; have hcz52_13 : w50.cell? ⟨gb104, 13, none⟩ = some (.slice A0_13 l0_13.length c0_13) := (blk_cell BK104.out 13).trans rfl; have hfz52_0 := blk_frozen BK104.out 0; have hfz52_1 := blk_frozen BK104.out 1; have hfz52_2 := blk_frozen BK104.out 2; have hfz52_3 := blk_frozen BK104.out 3; have hfz52_4 := blk_frozen BK104.out 4; have hfz52_5 := blk_frozen BK104.out 5; have hfz52_6 := blk_frozen BK104.out 6; have hfz52_7 := blk_frozen BK104.out 7; have hfz52_8 := blk_frozen BK104.out 8; have hfz52_9 := blk_frozen BK104.out 9; have hfz52_10 := blk_frozen BK104.out 10; have hfz52_11 := blk_frozen BK104.out 11; have hfz52_12 := blk_frozen BK104.out 12; have hfz52_13 := blk_frozen BK104.out 13; have hcz53_0 : w50.cell? ⟨gb105, 0, none⟩ = some (.int .i64 a1_0) := (blk_cell BK105.out 0).trans rfl; have hcz53_1 : w50.cell? ⟨gb105, 1, none⟩ = some (.int .i64 a1_1) := (blk_cell BK105.out 1).trans rfl; have hcz53_2 : w50.cell? ⟨gb105, 2, none⟩ = some (.int .i64 a1_2) := (blk_cell BK105.out 2).trans rfl; have hcz53_3 : w50.cell? ⟨gb105, 3, none⟩ = some (.int .i64 a1_3) := (blk_cell BK105.out 3).trans rfl; have hcz53_4 : w50.cell? ⟨gb105, 4, none⟩ = some (.string a1_4) := (blk_cell BK105.out 4).trans rfl; have hcz53_5 : w50.cell? ⟨gb105, 5, none⟩ = some (.int .i64 a1_5) := (blk_cell BK105.out 5).trans rfl; have hcz53_6 : w50.cell? ⟨gb105, 6, none⟩ = some (.int .i64 a1_6) := (blk_cell BK105.out 6).trans rfl; have hcz53_7 : w50.cell? ⟨gb105, 7, none⟩ = some (.string a1_7) := (blk_cell BK105.out 7).trans rfl; have hcz53_8 : w50.cell? ⟨gb105, 8, none⟩ = some (.int .i64 a1_8) := (blk_cell BK105.out 8).trans rfl; have hcz53_9 : w50.cell? ⟨gb105, 9, none⟩ = some (.int .i64 a1_9) := (blk_cell BK105.out 9).trans rfl; have hcz53_10 : w50.cell? ⟨gb105, 10, none⟩ = some (.int .i64 a1_10) := (blk_cell BK105.out 10).trans rfl; have hcz53_11 : w50.cell? ⟨gb105, 11, none⟩ = some (.int .i64 a1_11) := (blk_cell BK105.out 11).trans rfl; have hcz53_12 : w50.cell? ⟨gb105, 12, none⟩ = some (.slice A1_12 l1_12.length c1_12) := (blk_cell BK105.out 12).trans rfl; have hcz53_13 : w50.cell? ⟨gb105, 13, none⟩ = some (.slice A1_13 l1_13.length c1_13) := (blk_cell BK105.out 13).trans rfl; have hfz53_0 := blk_frozen BK105.out 0; have hfz53_1 := blk_frozen BK105.out 1; have hfz53_2 := blk_frozen BK105.out 2; have hfz53_3 := blk_frozen BK105.out 3; have hfz53_4 := blk_frozen BK105.out 4; have hfz53_5 := blk_frozen BK105.out 5; have hfz53_6 := blk_frozen BK105.out 6; have hfz53_7 := blk_frozen BK105.out 7; have hfz53_8 := blk_frozen BK105.out 8; have hfz53_9 := blk_frozen BK105.out 9; have hfz53_10 := blk_frozen BK105.out 10; have hfz53_11 := blk_frozen BK105.out 11; have hfz53_12 := blk_frozen BK105.out 12; have hfz53_13 := blk_frozen BK105.out 13))
  go_ret
  exact rt_
 rw [if_pos c5] at H
 have c5b0 : (a0_4.toList == a1_4.toList) = true := beq_iff_eq.mpr c5
 have c5b1 : (a0_4.toList != a1_4.toList) = false := bne_eq_false_iff_eq.mpr c5
 clear c5
 by_cases c6 : a0_5 = a1_5
 rotate_left
 ·rw [if_neg c6] at H
  have c6b0 : (a0_5 == a1_5) = false := beq_eq_false_iff_ne.mpr c6
  have c6b1 : (a0_5 != a1_5) = true := bne_iff_ne.mpr c6
  obtain rfl := Option.some.inj H
  go_enter Tryd.func18, Tryd.ntmps18
  go_wp2_with (first | ((with_reducible refine gate_dst (N := 2) rfl ?_); refine bx_ (w := w) (N := 2) (cs := #[.int .i64 a0_0, .int .i64 a0_1, .int .i64 a0_2, .int .i64 a0_3, .string a0_4, .int .i64 a0_5, .int .i64 a0_6, .string a0_7, .int .i64 a0_8, .int .i64 a0_9, .int .i64 a0_10, .int .i64 a0_11, .slice A0_12 l0_12.length c0_12, .slice A0_13 l0_13.length c0_13]) (t := 40) ?_; intro gb104 w44 BK104 n0_ GW104 GE104; clear HB; have HB := n0_; clear n0_) | ((with_reducible refine gate_dst (N := 3) rfl ?_); refine be_ (N := 3) (cs := #[.int .i64 a1_0, .int .i64 a1_1, .int .i64 a1_2, .int .i64 a1_3, .string a1_4, .int .i64 a1_5, .int .i64 a1_6, .string a1_7, .int .i64 a1_8, .int .i64 a1_9, .int .i64 a1_10, .int .i64 a1_11, .slice A1_12 l1_12.length c1_12, .slice A1_13 l1_13.length c1_13]) (t := 40) ?_; intro gb105 hg w45 hbox hb; have BK105 := am_ (hbox); have GW105 := gw_ (w := w) hg; have GE105 := gw_ (w := w) hg; replace HB := bt_ hb; have NB104_105 := ne_ hg BK104; have NB105_104 := nf_ hg BK104; replace BK104 := bw_ BK104 hb; clear hb hbox hg; have hnb46 := NB104_105.out; have hnc46 := NB105_104.out; have hcz47_0 : w45.cell? ⟨gb104, 0, none⟩ = some (.int .i64 a0_0) := (blk_cell BK104.out 0).trans rfl; have hcz47_1 : w45.cell? ⟨gb104, 1, none⟩ = some (.int .i64 a0_1) := (blk_cell BK104.out 1).trans rfl; have hcz47_2 : w45.cell? ⟨gb104, 2, none⟩ = some (.int .i64 a0_2) := (blk_cell BK104.out 2).trans rfl; have hcz47_3 : w45.cell? ⟨gb104, 3, none⟩ = some (.int .i64 a0_3) := (blk_cell BK104.out 3).trans rfl; have hcz47_4 : w45.cell? ⟨gb104, 4, none⟩ = some (.string a0_4) := (blk_cell BK104.out 4).trans rfl; have hcz47_5 : w45.cell? ⟨gb104, 5, none⟩ = some (.int .i64 a0_5) := (blk_cell BK104.out 5).trans rfl; have hcz47_6 : w45.cell? ⟨gb104, 6, none⟩ = some (.int .i64 a0_6) := (blk_cell BK104.out 6).trans rfl; have hcz47_7 : w45.cell? ⟨gb104, 7, none⟩ = some (.string a0_7) := (blk_cell BK104.out 7).trans rfl; have hcz47_8 : w45.cell? ⟨gb104, 8, none⟩ = some (.int .i64 a0_8) := (blk_cell BK104.out 8).trans rfl; have hcz47_9 : w45.cell? ⟨gb104, 9, none⟩ = some (.int .i64 a0_9) := (blk_cell BK104.out 9).trans rfl; have hcz47_10 : w45.cell? ⟨gb104, 10, none⟩ = some (.int .i64 a0_10) := (blk_cell BK104.out 10).trans rfl; have hcz47_11 : w45.cell? ⟨gb104, 11, none⟩ = some (.int .i64 a0_11) := (blk_cell BK104.out 11).trans rfl; have hcz47_12 : w45.cell? ⟨gb104, 12, none⟩ = some (.slice A0_12 l0_12.length c0_12) := (blk_cell BK104.out 12).trans rfl; have hcz47_13 : w45.cell? ⟨gb104, 13, none⟩ = some (.slice A0_13 l0_13.length c0_13) := (blk_cell BK104.out 13).trans rfl; have hfz47_0 := blk_frozen BK104.out 0; have hfz47_1 := blk_frozen BK104.out 1; have hfz47_2 := blk_frozen BK104.out 2; have hfz47_3 := blk_frozen BK104.out 3; have hfz47_4 := blk_frozen BK104.out 4; have hfz47_5 := blk_frozen BK104.out 5; have hfz47_6 := blk_frozen BK104.out 6; have hfz47_7 := blk_frozen BK104.out 7; have hfz47_8 := blk_frozen BK104.out 8; have hfz47_9 := blk_frozen BK104.out 9; have hfz47_10 := blk_frozen BK104.out 10; have hfz47_11 := blk_frozen BK104.out 11; have hfz47_12 := blk_frozen BK104.out 12; have hfz47_13 := blk_frozen BK104.out 13; have hcz48_0 : w45.cell? ⟨gb105, 0, none⟩ = some (.int .i64 a1_0) := (blk_cell BK105.out 0).trans rfl; have hcz48_1 : w45.cell? ⟨gb105, 1, none⟩ = some (.int .i64 a1_1) := (blk_cell BK105.out 1).trans rfl; have hcz48_2 : w45.cell? ⟨gb105, 2, none⟩ = some (.int .i64 a1_2) := (blk_cell BK105.out 2).trans rfl; have hcz48_3 : w45.cell? ⟨gb105, 3, none⟩ = some (.int .i64 a1_3) := (blk_cell BK105.out 3).trans rfl; have hcz48_4 : w45.cell? ⟨gb105, 4, none⟩ = some (.string a1_4) := (blk_cell BK105.out 4).trans rfl; have hcz48_5 : w45.cell? ⟨gb105, 5, none⟩ = some (.int .i64 a1_5) := (blk_cell BK105.out 5).trans rfl; have hcz48_6 : w45.cell? ⟨gb105, 6, none⟩ = some (.int .i64 a1_6) := (blk_cell BK105.out 6).trans rfl; have hcz48_7 : w45.cell? ⟨gb105, 7, none⟩ = some (.string a1_7) := (blk_cell BK105.out 7).trans rfl; have hcz48_8 : w45.cell? ⟨gb105, 8, none⟩ = some (.int .i64 a1_8) := (blk_cell BK105.out 8).trans rfl; have hcz48_9 : w45.cell? ⟨gb105, 9, none⟩ = some (.int .i64 a1_9) := (blk_cell BK105.out 9).trans rfl; have hcz48_10 : w45.cell? ⟨gb105, 10, none⟩ = some (.int .i64 a1_10) := (blk_cell BK105.out 10).trans rfl; have hcz48_11 : w45.cell? ⟨gb105, 11, none⟩ = some (.int .i64 a1_11) := (blk_cell BK105.out 11).trans rfl; have hcz48_12 : w45.cell? ⟨gb105, 12, none⟩ = some (.slice A1_12 l1_12.length c1_12) := (blk_cell BK105.out 12).trans rfl; have hcz48_13 : w45.cell? ⟨gb105, 13, none⟩ = some (.slice A1_13 l1_13.length c1_13) := (blk_cell BK105.out 13).trans rfl; have hfz48_0 := blk_frozen BK105.out 0; have hfz48_1 := blk_frozen BK105.out 1; have hfz48_2 := blk_frozen BK105.out 2; have hfz48_3 := blk_frozen BK105.out 3; have hfz48_4 := blk_frozen BK105.out 4; have hfz48_5 := blk_frozen BK105.out 5; have hfz48_6 := blk_frozen BK105.out 6; have hfz48_7 := blk_frozen BK105.out 7; have hfz48_8 := blk_frozen BK105.out 8; have hfz48_9 := blk_frozen BK105.out 9; have hfz48_10 := blk_frozen BK105.out 10; have hfz48_11 := blk_frozen BK105.out 11; have hfz48_12 := blk_frozen BK105.out 12; have hfz48_13 := blk_frozen BK105.out 13))
  go_ret
  exact rt_
 rw [if_pos c6] at H
 have c6b0 : (a0_5 == a1_5) = true := beq_iff_eq.mpr c6
 have c6b1 : (a0_5 != a1_5) = false := bne_eq_false_iff_eq.mpr c6
 clear c6
 by_cases c7 : a0_6 = a1_6
 rotate_left
 ·rw [if_neg c7] at H
  have c7b0 : (a0_6 == a1_6) = false := beq_eq_false_iff_ne.mpr c7
  have c7b1 : (a0_6 != a1_6) = true := bne_iff_ne.mpr c7
  obtain rfl := Option.some.inj H
  go_enter Tryd.func18, Tryd.ntmps18
  go_wp2_with (first | ((with_reducible refine gate_dst (N := 2) rfl ?_); refine bx_ (w := w) (N := 2) (cs := #[.int .i64 a0_0, .int .i64 a0_1, .int .i64 a0_2, .int .i64 a0_3, .string a0_4, .int .i64 a0_5, .int .i64 a0_6, .string a0_7, .int .i64 a0_8, .int .i64 a0_9, .int .i64 a0_10, .int .i64 a0_11, .slice A0_12 l0_12.length c0_12, .slice A0_13 l0_13.length c0_13]) (t := 40) ?_; intro gb104 w39 BK104 n0_ GW104 GE104; clear HB; have HB := n0_; clear n0_) | ((with_reducible refine gate_dst (N := 3) rfl ?_); refine be_ (N := 3) (cs := #[.int .i64 a1_0, .int .i64 a1_1, .int .i64 a1_2, .int .i64 a1_3, .string a1_4, .int .i64 a1_5, .int .i64 a1_6, .string a1_7, .int .i64 a1_8, .int .i64 a1_9, .int .i64 a1_10, .int .i64 a1_11, .slice A1_12 l1_12.length c1_12, .slice A1_13 l1_13.length c1_13]) (t := 40) ?_; intro gb105 hg w40 hbox hb; have BK105 := am_ (hbox); have GW105 := gw_ (w := w) hg; have GE105 := gw_ (w := w) hg; replace HB := bt_ hb; have NB104_105 := ne_ hg BK104; have NB105_104 := nf_ hg BK104; replace BK104 := bw_ BK104 hb; clear hb hbox hg; have hnb41 := NB104_105.out; have hnc41 := NB105_104.out; have hcz42_0 : w40.cell? ⟨gb104, 0, none⟩ = some (.int .i64 a0_0) := (blk_cell BK104.out 0).trans rfl; have hcz42_1 : w40.cell? ⟨gb104, 1, none⟩ = some (.int .i64 a0_1) := (blk_cell BK104.out 1).trans rfl; have hcz42_2 : w40.cell? ⟨gb104, 2, none⟩ = some (.int .i64 a0_2) := (blk_cell BK104.out 2).trans rfl; have hcz42_3 : w40.cell? ⟨gb104, 3, none⟩ = some (.int .i64 a0_3) := (blk_cell BK104.out 3).trans rfl; have hcz42_4 : w40.cell? ⟨gb104, 4, none⟩ = some (.string a0_4) := (blk_cell BK104.out 4).trans rfl; have hcz42_5 : w40.cell? ⟨gb104, 5, none⟩ = some (.int .i64 a0_5) := (blk_cell BK104.out 5).trans rfl; have hcz42_6 : w40.cell? ⟨gb104, 6, none⟩ = some (.int .i64 a0_6) := (blk_cell BK104.out 6).trans rfl; have hcz42_7 : w40.cell? ⟨gb104, 7, none⟩ = some (.string a0_7) := (blk_cell BK104.out 7).trans rfl; have hcz42_8 : w40.cell? ⟨gb104, 8, none⟩ = some (.int .i64 a0_8) := (blk_cell BK104.out 8).trans rfl; have hcz42_9 : w40.cell? ⟨gb104, 9, none⟩ = some (.int .i64 a0_9) := (blk_cell BK104.out 9).trans rfl; have hcz42_10 : w40.cell? ⟨gb104, 10, none⟩ = some (.int .i64 a0_10) := (blk_cell BK104.out 10).trans rfl; have hcz42_11 : w40.cell? ⟨gb104, 11, none⟩ = some (.int .i64 a0_11) := (blk_cell BK104.out 11).trans rfl; have hcz42_12 : w40.cell? ⟨gb104, 12, none⟩ = some (.slice A0_12 l0_12.length c0_12) := (blk_cell BK104.out 12).trans rfl; have hcz42_13 : w40.cell? ⟨gb104, 13, none⟩ = some (.slice A0_13 l0_13.length c0_13) := (blk_cell BK104.out 13).trans rfl; have hfz42_0 := blk_frozen BK104.out 0; have hfz42_1 := blk_frozen BK104.out 1; have hfz42_2 := blk_frozen BK104.out 2; have hfz42_3 := blk_frozen BK104.out 3; have hfz42_4 := blk_frozen BK104.out 4; have hfz42_5 := blk_frozen BK104.out 5; have hfz42_6 := blk_frozen BK104.out 6; have hfz42_7 := blk_frozen BK104.out 7; have hfz42_8 := blk_frozen BK104.out 8; have hfz42_9 := blk_frozen BK104.out 9; have hfz42_10 := blk_frozen BK104.out 10; have hfz42_11 := blk_frozen BK104.out 11; have hfz42_12 := blk_frozen BK104.out 12; have hfz42_13 := blk_frozen BK104.out 13; have hcz43_0 : w40.cell? ⟨gb105, 0, none⟩ = some (.int .i64 a1_0) := (blk_cell BK105.out 0).trans rfl; have hcz43_1 : w40.cell? ⟨gb105, 1, none⟩ = some (.int .i64 a1_1) := (blk_cell BK105.out 1).trans rfl; have hcz43_2 : w40.cell? ⟨gb105, 2, none⟩ = some (.int .i64 a1_2) := (blk_cell BK105.out 2).trans rfl; have hcz43_3 : w40.cell? ⟨gb105, 3, none⟩ = some (.int .i64 a1_3) := (blk_cell BK105.out 3).trans rfl; have hcz43_4 : w40.cell? ⟨gb105, 4, none⟩ = some (.string a1_4) := (blk_cell BK105.out 4).trans rfl; have hcz43_5 : w40.cell? ⟨gb105, 5, none⟩ = some (.int .i64 a1_5) := (blk_cell BK105.out 5).trans rfl; have hcz43_6 : w40.cell? ⟨gb105, 6, none⟩ = some (.int .i64 a1_6) := (blk_cell BK105.out 6).trans rfl; have hcz43_7 : w40.cell? ⟨gb105, 7, none⟩ = some (.string a1_7) := (blk_cell BK105.out 7).trans rfl; have hcz43_8 : w40.cell? ⟨gb105, 8, none⟩ = some (.int .i64 a1_8) := (blk_cell BK105.out 8).trans rfl; have hcz43_9 : w40.cell? ⟨gb105, 9, none⟩ = some (.int .i64 a1_9) := (blk_cell BK105.out 9).trans rfl; have hcz43_10 : w40.cell? ⟨gb105, 10, none⟩ = some (.int .i64 a1_10) := (blk_cell BK105.out 10).trans rfl; have hcz43_11 : w40.cell? ⟨gb105, 11, none⟩ = some (.int .i64 a1_11) := (blk_cell BK105.out 11).trans rfl; have hcz43_12 : w40.cell? ⟨gb105, 12, none⟩ = some (.slice A1_12 l1_12.length c1_12) := (blk_cell BK105.out 12).trans rfl; have hcz43_13 : w40.cell? ⟨gb105, 13, none⟩ = some (.slice A1_13 l1_13.length c1_13) := (blk_cell BK105.out 13).trans rfl; have hfz43_0 := blk_frozen BK105.out 0; have hfz43_1 := blk_frozen BK105.out 1; have hfz43_2 := blk_frozen BK105.out 2; have hfz43_3 := blk_frozen BK105.out 3; have hfz43_4 := blk_frozen BK105.out 4; have hfz43_5 := blk_frozen BK105.out 5; have hfz43_6 := blk_frozen BK105.out 6; have hfz43_7 := blk_frozen BK105.out 7; have hfz43_8 := blk_frozen BK105.out 8; have hfz43_9 := blk_frozen BK105.out 9; have hfz43_10 := blk_frozen BK105.out 10; have hfz43_11 := blk_frozen BK105.out 11; have hfz43_12 := blk_frozen BK105.out 12; have hfz43_13 := blk_frozen BK105.out 13))
  go_ret
  exact rt_
 rw [if_pos c7] at H
 have c7b0 : (a0_6 == a1_6) = true := beq_iff_eq.mpr c7
 have c7b1 : (a0_6 != a1_6) = false := bne_eq_false_iff_eq.mpr c7
 clear c7
 by_cases c8 : a0_7.toList = a1_7.toList
 rotate_left
 ·rw [if_neg c8] at H
  have c8b0 : (a0_7.toList == a1_7.toList) = false := beq_eq_false_iff_ne.mpr c8
  have c8b1 : (a0_7.toList != a1_7.toList) = true := bne_iff_ne.mpr c8
  obtain rfl := Option.some.inj H
  go_enter Tryd.func18, Tryd.ntmps18
  go_wp2_with (first | ((with_reducible refine gate_dst (N := 2) rfl ?_); refine bx_ (w := w) (N := 2) (cs := #[.int .i64 a0_0, .int .i64 a0_1, .int .i64 a0_2, .int .i64 a0_3, .string a0_4, .int .i64 a0_5, .int .i64 a0_6, .string a0_7, .int .i64 a0_8, .int .i64 a0_9, .int .i64 a0_10, .int .i64 a0_11, .slice A0_12 l0_12.length c0_12, .slice A0_13 l0_13.length c0_13]) (t := 40) ?_; intro gb104 w34 BK104 n0_ GW104 GE104; clear HB; have HB := n0_; clear n0_) | ((with_reducible refine gate_dst (N := 3) rfl ?_); refine be_ (N := 3) (cs := #[.int .i64 a1_0, .int .i64 a1_1, .int .i64 a1_2, .int .i64 a1_3, .string a1_4, .int .i64 a1_5, .int .i64 a1_6, .string a1_7, .int .i64 a1_8, .int .i64 a1_9, .int .i64 a1_10, .int .i64 a1_11, .slice A1_12 l1_12.length c1_12, .slice A1_13 l1_13.length c1_13]) (t := 40) ?_; intro gb105 hg w35 hbox hb; have BK105 := am_ (hbox); have GW105 := gw_ (w := w) hg; have GE105 := gw_ (w := w) hg; replace HB := bt_ hb; have NB104_105 := ne_ hg BK104; have NB105_104 := nf_ hg BK104; replace BK104 := bw_ BK104 hb; clear hb hbox hg; have hnb36 := NB104_105.out; have hnc36 := NB105_104.out; have hcz37_0 : w35.cell? ⟨gb104, 0, none⟩ = some (.int .i64 a0_0) := (blk_cell BK104.out 0).trans rfl; have hcz37_1 : w35.cell? ⟨gb104, 1, none⟩ = some (.int .i64 a0_1) := (blk_cell BK104.out 1).trans rfl; have hcz37_2 : w35.cell? ⟨gb104, 2, none⟩ = some (.int .i64 a0_2) := (blk_cell BK104.out 2).trans rfl; have hcz37_3 : w35.cell? ⟨gb104, 3, none⟩ = some (.int .i64 a0_3) := (blk_cell BK104.out 3).trans rfl; have hcz37_4 : w35.cell? ⟨gb104, 4, none⟩ = some (.string a0_4) := (blk_cell BK104.out 4).trans rfl; have hcz37_5 : w35.cell? ⟨gb104, 5, none⟩ = some (.int .i64 a0_5) := (blk_cell BK104.out 5).trans rfl; have hcz37_6 : w35.cell? ⟨gb104, 6, none⟩ = some (.int .i64 a0_6) := (blk_cell BK104.out 6).trans rfl; have hcz37_7 : w35.cell? ⟨gb104, 7, none⟩ = some (.string a0_7) := (blk_cell BK104.out 7).trans rfl; have hcz37_8 : w35.cell? ⟨gb104, 8, none⟩ = some (.int .i64 a0_8) := (blk_cell BK104.out 8).trans rfl; have hcz37_9 : w35.cell? ⟨gb104, 9, none⟩ = some (.int .i64 a0_9) := (blk_cell BK104.out 9).trans rfl; have hcz37_10 : w35.cell? ⟨gb104, 10, none⟩ = some (.int .i64 a0_10) := (blk_cell BK104.out 10).trans rfl; have hcz37_11 : w35.cell? ⟨gb104, 11, none⟩ = some (.int .i64 a0_11) := (blk_cell BK104.out 11).trans rfl; have hcz37_12 : w35.cell? ⟨gb104, 12, none⟩ = some (.slice A0_12 l0_12.length c0_12) := (blk_cell BK104.out 12).trans rfl; have hcz37_13 : w35.cell? ⟨gb104, 13, none⟩ = some (.slice A0_13 l0_13.length c0_13) := (blk_cell BK104.out 13).trans rfl; have hfz37_0 := blk_frozen BK104.out 0; have hfz37_1 := blk_frozen BK104.out 1; have hfz37_2 := blk_frozen BK104.out 2; have hfz37_3 := blk_frozen BK104.out 3; have hfz37_4 := blk_frozen BK104.out 4; have hfz37_5 := blk_frozen BK104.out 5; have hfz37_6 := blk_frozen BK104.out 6; have hfz37_7 := blk_frozen BK104.out 7; have hfz37_8 := blk_frozen BK104.out 8; have hfz37_9 := blk_frozen BK104.out 9; have hfz37_10 := blk_frozen BK104.out 10; have hfz37_11 := blk_frozen BK104.out 11; have hfz37_12 := blk_frozen BK104.out 12; have hfz37_13 := blk_frozen BK104.out 13; have hcz38_0 : w35.cell? ⟨gb105, 0, none⟩ = some (.int .i64 a1_0) := (blk_cell BK105.out 0).trans rfl; have hcz38_1 : w35.cell? ⟨gb105, 1, none⟩ = some (.int .i64 a1_1) := (blk_cell BK105.out 1).trans rfl; have hcz38_2 : w35.cell? ⟨gb105, 2, none⟩ = some (.int .i64 a1_2) := (blk_cell BK105.out 2).trans rfl; have hcz38_3 : w35.cell? ⟨gb105, 3, none⟩ = some (.int .i64 a1_3) := (blk_cell BK105.out 3).trans rfl; have hcz38_4 : w35.cell? ⟨gb105, 4, none⟩ = some (.string a1_4) := (blk_cell BK105.out 4).trans rfl; have hcz38_5 : w35.cell? ⟨gb105, 5, none⟩ = some (.int .i64 a1_5) := (blk_cell BK105.out 5).trans rfl; have hcz38_6 : w35.cell? ⟨gb105, 6, none⟩ = some (.int .i64 a1_6) := (blk_cell BK105.out 6).trans rfl; have hcz38_7 : w35.cell? ⟨gb105, 7, none⟩ = some (.string a1_7) := (blk_cell BK105.out 7).trans rfl; have hcz38_8 : w35.cell? ⟨gb105, 8, none⟩ = some (.int .i64 a1_8) := (blk_cell BK105.out 8).trans rfl; have hcz38_9 : w35.cell? ⟨gb105, 9, none⟩ = some (.int .i64 a1_9) := (blk_cell BK105.out 9).trans rfl; have hcz38_10 : w35.cell? ⟨gb105, 10, none⟩ = some (.int .i64 a1_10) := (blk_cell BK105.out 10).trans rfl; have hcz38_11 : w35.cell? ⟨gb105, 11, none⟩ = some (.int .i64 a1_11) := (blk_cell BK105.out 11).trans rfl; have hcz38_12 : w35.cell? ⟨gb105, 12, none⟩ = some (.slice A1_12 l1_12.length c1_12) := (blk_cell BK105.out 12).trans rfl; have hcz38_13 : w35.cell? ⟨gb105, 13, none⟩ = some (.slice A1_13 l1_13.length c1_13) := (blk_cell BK105.out 13).trans rfl; have hfz38_0 := blk_frozen BK105.out 0; have hfz38_1 := blk_frozen BK105.out 1; have hfz38_2 := blk_frozen BK105.out 2; have hfz38_3 := blk_frozen BK105.out 3; have hfz38_4 := blk_frozen BK105.out 4; have hfz38_5 := blk_frozen BK105.out 5; have hfz38_6 := blk_frozen BK105.out 6; have hfz38_7 := blk_frozen BK105.out 7; have hfz38_8 := blk_frozen BK105.out 8; have hfz38_9 := blk_frozen BK105.out 9; have hfz38_10 := blk_frozen BK105.out 10; have hfz38_11 := blk_frozen BK105.out 11; have hfz38_12 := blk_frozen BK105.out 12; have hfz38_13 := blk_frozen BK105.out 13))
  go_ret
  exact rt_
 rw [if_pos c8] at H
 have c8b0 : (a0_7.toList == a1_7.toList) = true := beq_iff_eq.mpr c8
 have c8b1 : (a0_7.toList != a1_7.toList) = false := bne_eq_false_iff_eq.mpr c8
 clear c8
 by_cases c9 : a0_8 = a1_8
 rotate_left
 ·rw [if_neg c9] at H
  have c9b0 : (a0_8 == a1_8) = false := beq_eq_false_iff_ne.mpr c9
  have c9b1 : (a0_8 != a1_8) = true := bne_iff_ne.mpr c9
  obtain rfl := Option.some.inj H
  go_enter Tryd.func18, Tryd.ntmps18
  go_wp2_with (first | ((with_reducible refine gate_dst (N := 2) rfl ?_); refine bx_ (w := w) (N := 2) (cs := #[.int .i64 a0_0, .int .i64 a0_1, .int .i64 a0_2, .int .i64 a0_3, .string a0_4, .int .i64 a0_5, .int .i64 a0_6, .string a0_7, .int .i64 a0_8, .int .i64 a0_9, .int .i64 a0_10, .int .i64 a0_11, .slice A0_12 l0_12.length c0_12, .slice A0_13 l0_13.length c0_13]) (t := 40) ?_; intro gb104 w29 BK104 n0_ GW104 GE104; clear HB; have HB := n0_; clear n0_) | ((with_reducible refine gate_dst (N := 3) rfl ?_); refine be_ (N := 3) (cs := #[.int .i64 a1_0, .int .i64 a1_1, .int .i64 a1_2, .int .i64 a1_3, .string a1_4, .int .i64 a1_5, .int .i64 a1_6, .string a1_7, .int .i64 a1_8, .int .i64 a1_9, .int .i64 a1_10, .int .i64 a1_11, .slice A1_12 l1_12.length c1_12, .slice A1_13 l1_13.length c1_13]) (t := 40) ?_; intro gb105 hg w30 hbox hb; have BK105 := am_ (hbox); have GW105 := gw_ (w := w) hg; have GE105 := gw_ (w := w) hg; replace HB := bt_ hb; have NB104_105 := ne_ hg BK104; have NB105_104 := nf_ hg BK104; replace BK104 := bw_ BK104 hb; clear hb hbox hg; have hnb31 := NB104_105.out; have hnc31 := NB105_104.out; have hcz32_0 : w30.cell? ⟨gb104, 0, none⟩ = some (.int .i64 a0_0) := (blk_cell BK104.out 0).trans rfl; have hcz32_1 : w30.cell? ⟨gb104, 1, none⟩ = some (.int .i64 a0_1) := (blk_cell BK104.out 1).trans rfl; have hcz32_2 : w30.cell? ⟨gb104, 2, none⟩ = some (.int .i64 a0_2) := (blk_cell BK104.out 2).trans rfl; have hcz32_3 : w30.cell? ⟨gb104, 3, none⟩ = some (.int .i64 a0_3) := (blk_cell BK104.out 3).trans rfl; have hcz32_4 : w30.cell? ⟨gb104, 4, none⟩ = some (.string a0_4) := (blk_cell BK104.out 4).trans rfl; have hcz32_5 : w30.cell? ⟨gb104, 5, none⟩ = some (.int .i64 a0_5) := (blk_cell BK104.out 5).trans rfl; have hcz32_6 : w30.cell? ⟨gb104, 6, none⟩ = some (.int .i64 a0_6) := (blk_cell BK104.out 6).trans rfl; have hcz32_7 : w30.cell? ⟨gb104, 7, none⟩ = some (.string a0_7) := (blk_cell BK104.out 7).trans rfl; have hcz32_8 : w30.cell? ⟨gb104, 8, none⟩ = some (.int .i64 a0_8) := (blk_cell BK104.out 8).trans rfl; have hcz32_9 : w30.cell? ⟨gb104, 9, none⟩ = some (.int .i64 a0_9) := (blk_cell BK104.out 9).trans rfl; have hcz32_10 : w30.cell? ⟨gb104, 10, none⟩ = some (.int .i64 a0_10) := (blk_cell BK104.out 10).trans rfl; have hcz32_11 : w30.cell? ⟨gb104, 11, none⟩ = some (.int .i64 a0_11) := (blk_cell BK104.out 11).trans rfl; have hcz32_12 : w30.cell? ⟨gb104, 12, none⟩ = some (.slice A0_12 l0_12.length c0_12) := (blk_cell BK104.out 12).trans rfl; have hcz32_13 : w30.cell? ⟨gb104, 13, none⟩ = some (.slice A0_13 l0_13.length c0_13) := (blk_cell BK104.out 13).trans rfl; have hfz32_0 := blk_frozen BK104.out 0; have hfz32_1 := blk_frozen BK104.out 1; have hfz32_2 := blk_frozen BK104.out 2; have hfz32_3 := blk_frozen BK104.out 3; have hfz32_4 := blk_frozen BK104.out 4; have hfz32_5 := blk_frozen BK104.out 5; have hfz32_6 := blk_frozen BK104.out 6; have hfz32_7 := blk_frozen BK104.out 7; have hfz32_8 := blk_frozen BK104.out 8; have hfz32_9 := blk_frozen BK104.out 9; have hfz32_10 := blk_frozen BK104.out 10; have hfz32_11 := blk_frozen BK104.out 11; have hfz32_12 := blk_frozen BK104.out 12; have hfz32_13 := blk_frozen BK104.out 13; have hcz33_0 : w30.cell? ⟨gb105, 0, none⟩ = some (.int .i64 a1_0) := (blk_cell BK105.out 0).trans rfl; have hcz33_1 : w30.cell? ⟨gb105, 1, none⟩ = some (.int .i64 a1_1) := (blk_cell BK105.out 1).trans rfl; have hcz33_2 : w30.cell? ⟨gb105, 2, none⟩ = some (.int .i64 a1_2) := (blk_cell BK105.out 2).trans rfl; have hcz33_3 : w30.cell? ⟨gb105, 3, none⟩ = some (.int .i64 a1_3) := (blk_cell BK105.out 3).trans rfl; have hcz33_4 : w30.cell? ⟨gb105, 4, none⟩ = some (.string a1_4) := (blk_cell BK105.out 4).trans rfl; have hcz33_5 : w30.cell? ⟨gb105, 5, none⟩ = some (.int .i64 a1_5) := (blk_cell BK105.out 5).trans rfl; have hcz33_6 : w30.cell? ⟨gb105, 6, none⟩ = some (.int .i64 a1_6) := (blk_cell BK105.out 6).trans rfl; have hcz33_7 : w30.cell? ⟨gb105, 7, none⟩ = some (.string a1_7) := (blk_cell BK105.out 7).trans rfl; have hcz33_8 : w30.cell? ⟨gb105, 8, none⟩ = some (.int .i64 a1_8) := (blk_cell BK105.out 8).trans rfl; have hcz33_9 : w30.cell? ⟨gb105, 9, none⟩ = some (.int .i64 a1_9) := (blk_cell BK105.out 9).trans rfl; have hcz33_10 : w30.cell? ⟨gb105, 10, none⟩ = some (.int .i64 a1_10) := (blk_cell BK105.out 10).trans rfl; have hcz33_11 : w30.cell? ⟨gb105, 11, none⟩ = some (.int .i64 a1_11) := (blk_cell BK105.out 11).trans rfl; have hcz33_12 : w30.cell? ⟨gb105, 12, none⟩ = some (.slice A1_12 l1_12.length c1_12) := (blk_cell BK105.out 12).trans rfl; have hcz33_13 : w30.cell? ⟨gb105, 13, none⟩ = some (.slice A1_13 l1_13.length c1_13) := (blk_cell BK105.out 13).trans rfl; have hfz33_0 := blk_frozen BK105.out 0; have hfz33_1 := blk_frozen BK105.out 1; have hfz33_2 := blk_frozen BK105.out 2; have hfz33_3 := blk_frozen BK105.out 3; have hfz33_4 := blk_frozen BK105.out 4; have hfz33_5 := blk_frozen BK105.out 5; have hfz33_6 := blk_frozen BK105.out 6; have hfz33_7 := blk_frozen BK105.out 7; have hfz33_8 := blk_frozen BK105.out 8; have hfz33_9 := blk_frozen BK105.out 9; have hfz33_10 := blk_frozen BK105.out 10; have hfz33_11 := blk_frozen BK105.out 11; have hfz33_12 := blk_frozen BK105.out 12; have hfz33_13 := blk_frozen BK105.out 13))
  go_ret
  exact rt_
 rw [if_pos c9] at H
 have c9b0 : (a0_8 == a1_8) = true := beq_iff_eq.mpr c9
 have c9b1 : (a0_8 != a1_8) = false := bne_eq_false_iff_eq.mpr c9
 clear c9
 by_cases c10 : (a0_9 == a1_9 && (a0_10 == a1_10 && (a0_11 == a1_11))) = true
 rotate_left
 ·rw [if_neg c10] at H
  have c10b0 : (a0_9 == a1_9 && (a0_10 == a1_10 && (a0_11 == a1_11))) = false := by simpa using c10
  (try (have c10b1 : decide (a0_9 = a1_9 && (a0_10 == a1_10 && (a0_11 == a1_11))) = false := by simpa using c10))
  (try (have c10b2 : (a0_9 == a1_9 && (a0_10 == a1_10 && (a0_11 == a1_11))) = false := by simpa using c10))
  (try (have c10b3 : ¬ (a0_9 = a1_9 && (a0_10 == a1_10 && (a0_11 == a1_11))) := by simpa using c10))
  clear c10
  obtain rfl := Option.some.inj H
  go_enter Tryd.func18, Tryd.ntmps18
  go_wp2_with (first | ((with_reducible refine gate_dst (N := 2) rfl ?_); refine bx_ (w := w) (N := 2) (cs := #[.int .i64 a0_0, .int .i64 a0_1, .int .i64 a0_2, .int .i64 a0_3, .string a0_4, .int .i64 a0_5, .int .i64 a0_6, .string a0_7, .int .i64 a0_8, .int .i64 a0_9, .int .i64 a0_10, .int .i64 a0_11, .slice A0_12 l0_12.length c0_12, .slice A0_13 l0_13.length c0_13]) (t := 40) ?_; intro gb104 w24 BK104 n0_ GW104 GE104; clear HB; have HB := n0_; clear n0_) | ((with_reducible refine gate_dst (N := 3) rfl ?_); refine be_ (N := 3) (cs := #[.int .i64 a1_0, .int .i64 a1_1, .int .i64 a1_2, .int .i64 a1_3, .string a1_4, .int .i64 a1_5, .int .i64 a1_6, .string a1_7, .int .i64 a1_8, .int .i64 a1_9, .int .i64 a1_10, .int .i64 a1_11, .slice A1_12 l1_12.length c1_12, .slice A1_13 l1_13.length c1_13]) (t := 40) ?_; intro gb105 hg w25 hbox hb; have BK105 := am_ (hbox); have GW105 := gw_ (w := w) hg; have GE105 := gw_ (w := w) hg; replace HB := bt_ hb; have NB104_105 := ne_ hg BK104; have NB105_104 := nf_ hg BK104; replace BK104 := bw_ BK104 hb; clear hb hbox hg; have hnb26 := NB104_105.out; have hnc26 := NB105_104.out; have hcz27_0 : w25.cell? ⟨gb104, 0, none⟩ = some (.int .i64 a0_0) := (blk_cell BK104.out 0).trans rfl; have hcz27_1 : w25.cell? ⟨gb104, 1, none⟩ = some (.int .i64 a0_1) := (blk_cell BK104.out 1).trans rfl; have hcz27_2 : w25.cell? ⟨gb104, 2, none⟩ = some (.int .i64 a0_2) := (blk_cell BK104.out 2).trans rfl; have hcz27_3 : w25.cell? ⟨gb104, 3, none⟩ = some (.int .i64 a0_3) := (blk_cell BK104.out 3).trans rfl; have hcz27_4 : w25.cell? ⟨gb104, 4, none⟩ = some (.string a0_4) := (blk_cell BK104.out 4).trans rfl; have hcz27_5 : w25.cell? ⟨gb104, 5, none⟩ = some (.int .i64 a0_5) := (blk_cell BK104.out 5).trans rfl; have hcz27_6 : w25.cell? ⟨gb104, 6, none⟩ = some (.int .i64 a0_6) := (blk_cell BK104.out 6).trans rfl; have hcz27_7 : w25.cell? ⟨gb104, 7, none⟩ = some (.string a0_7) := (blk_cell BK104.out 7).trans rfl; have hcz27_8 : w25.cell? ⟨gb104, 8, none⟩ = some (.int .i64 a0_8) := (blk_cell BK104.out 8).trans rfl; have hcz27_9 : w25.cell? ⟨gb104, 9, none⟩ = some (.int .i64 a0_9) := (blk_cell BK104.out 9).trans rfl; have hcz27_10 : w25.cell? ⟨gb104, 10, none⟩ = some (.int .i64 a0_10) := (blk_cell BK104.out 10).trans rfl; have hcz27_11 : w25.cell? ⟨gb104, 11, none⟩ = some (.int .i64 a0_11) := (blk_cell BK104.out 11).trans rfl; have hcz27_12 : w25.cell? ⟨gb104, 12, none⟩ = some (.slice A0_12 l0_12.length c0_12) := (blk_cell BK104.out 12).trans rfl; have hcz27_13 : w25.cell? ⟨gb104, 13, none⟩ = some (.slice A0_13 l0_13.length c0_13) := (blk_cell BK104.out 13).trans rfl; have hfz27_0 := blk_frozen BK104.out 0; have hfz27_1 := blk_frozen BK104.out 1; have hfz27_2 := blk_frozen BK104.out 2; have hfz27_3 := blk_frozen BK104.out 3; have hfz27_4 := blk_frozen BK104.out 4; have hfz27_5 := blk_frozen BK104.out 5; have hfz27_6 := blk_frozen BK104.out 6; have hfz27_7 := blk_frozen BK104.out 7; have hfz27_8 := blk_frozen BK104.out 8; have hfz27_9 := blk_frozen BK104.out 9; have hfz27_10 := blk_frozen BK104.out 10; have hfz27_11 := blk_frozen BK104.out 11; have hfz27_12 := blk_frozen BK104.out 12; have hfz27_13 := blk_frozen BK104.out 13; have hcz28_0 : w25.cell? ⟨gb105, 0, none⟩ = some (.int .i64 a1_0) := (blk_cell BK105.out 0).trans rfl; have hcz28_1 : w25.cell? ⟨gb105, 1, none⟩ = some (.int .i64 a1_1) := (blk_cell BK105.out 1).trans rfl; have hcz28_2 : w25.cell? ⟨gb105, 2, none⟩ = some (.int .i64 a1_2) := (blk_cell BK105.out 2).trans rfl; have hcz28_3 : w25.cell? ⟨gb105, 3, none⟩ = some (.int .i64 a1_3) := (blk_cell BK105.out 3).trans rfl; have hcz28_4 : w25.cell? ⟨gb105, 4, none⟩ = some (.string a1_4) := (blk_cell BK105.out 4).trans rfl; have hcz28_5 : w25.cell? ⟨gb105, 5, none⟩ = some (.int .i64 a1_5) := (blk_cell BK105.out 5).trans rfl; have hcz28_6 : w25.cell? ⟨gb105, 6, none⟩ = some (.int .i64 a1_6) := (blk_cell BK105.out 6).trans rfl; have hcz28_7 : w25.cell? ⟨gb105, 7, none⟩ = some (.string a1_7) := (blk_cell BK105.out 7).trans rfl; have hcz28_8 : w25.cell? ⟨gb105, 8, none⟩ = some (.int .i64 a1_8) := (blk_cell BK105.out 8).trans rfl; have hcz28_9 : w25.cell? ⟨gb105, 9, none⟩ = some (.int .i64 a1_9) := (blk_cell BK105.out 9).trans rfl; have hcz28_10 : w25.cell? ⟨gb105, 10, none⟩ = some (.int .i64 a1_10) := (blk_cell BK105.out 10).trans rfl; have hcz28_11 : w25.cell? ⟨gb105, 11, none⟩ = some (.int .i64 a1_11) := (blk_cell BK105.out 11).trans rfl; have hcz28_12 : w25.cell? ⟨gb105, 12, none⟩ = some (.slice A1_12 l1_12.length c1_12) := (blk_cell BK105.out 12).trans rfl; have hcz28_13 : w25.cell? ⟨gb105, 13, none⟩ = some (.slice A1_13 l1_13.length c1_13) := (blk_cell BK105.out 13).trans rfl; have hfz28_0 := blk_frozen BK105.out 0; have hfz28_1 := blk_frozen BK105.out 1; have hfz28_2 := blk_frozen BK105.out 2; have hfz28_3 := blk_frozen BK105.out 3; have hfz28_4 := blk_frozen BK105.out 4; have hfz28_5 := blk_frozen BK105.out 5; have hfz28_6 := blk_frozen BK105.out 6; have hfz28_7 := blk_frozen BK105.out 7; have hfz28_8 := blk_frozen BK105.out 8; have hfz28_9 := blk_frozen BK105.out 9; have hfz28_10 := blk_frozen BK105.out 10; have hfz28_11 := blk_frozen BK105.out 11; have hfz28_12 := blk_frozen BK105.out 12; have hfz28_13 := blk_frozen BK105.out 13))
  go_ret
  exact rt_
 rw [if_pos c10] at H
 have c10b0 : (a0_9 == a1_9 && (a0_10 == a1_10 && (a0_11 == a1_11))) = true := c10
 (try (have c10b1 : decide (a0_9 = a1_9 && (a0_10 == a1_10 && (a0_11 == a1_11))) = true := by simpa using c10))
 (try (have c10b2 : (a0_9 == a1_9 && (a0_10 == a1_10 && (a0_11 == a1_11))) = true := by simpa using c10))
 clear c10
 obtain ⟨t106, A11, H⟩ := bs_ H
 by_cases c12 : t106 = true
 rotate_left
 ·replace c12 := Bool.eq_false_iff.mpr c12
  subst c12
  replace H := if_ H
  obtain rfl := Option.some.inj H
  go_enter Tryd.func18, Tryd.ntmps18
  go_wp2_with (first | ((with_reducible refine gate_dst (N := 2) rfl ?_); refine bx_ (w := w) (N := 2) (cs := #[.int .i64 a0_0, .int .i64 a0_1, .int .i64 a0_2, .int .i64 a0_3, .string a0_4, .int .i64 a0_5, .int .i64 a0_6, .string a0_7, .int .i64 a0_8, .int .i64 a0_9, .int .i64 a0_10, .int .i64 a0_11, .slice A0_12 l0_12.length c0_12, .slice A0_13 l0_13.length c0_13]) (t := 40) ?_; intro gb104 w19 BK104 n0_ GW104 GE104; clear HB; have HB := n0_; clear n0_) | ((with_reducible refine gate_dst (N := 3) rfl ?_); refine be_ (N := 3) (cs := #[.int .i64 a1_0, .int .i64 a1_1, .int .i64 a1_2, .int .i64 a1_3, .string a1_4, .int .i64 a1_5, .int .i64 a1_6, .string a1_7, .int .i64 a1_8, .int .i64 a1_9, .int .i64 a1_10, .int .i64 a1_11, .slice A1_12 l1_12.length c1_12, .slice A1_13 l1_13.length c1_13]) (t := 40) ?_; intro gb105 hg w20 hbox hb; have BK105 := am_ (hbox); have GW105 := gw_ (w := w) hg; have GE105 := gw_ (w := w) hg; replace HB := bt_ hb; have NB104_105 := ne_ hg BK104; have NB105_104 := nf_ hg BK104; replace BK104 := bw_ BK104 hb; clear hb hbox hg; have hnb21 := NB104_105.out; have hnc21 := NB105_104.out; have hcz22_0 : w20.cell? ⟨gb104, 0, none⟩ = some (.int .i64 a0_0) := (blk_cell BK104.out 0).trans rfl; have hcz22_1 : w20.cell? ⟨gb104, 1, none⟩ = some (.int .i64 a0_1) := (blk_cell BK104.out 1).trans rfl; have hcz22_2 : w20.cell? ⟨gb104, 2, none⟩ = some (.int .i64 a0_2) := (blk_cell BK104.out 2).trans rfl; have hcz22_3 : w20.cell? ⟨gb104, 3, none⟩ = some (.int .i64 a0_3) := (blk_cell BK104.out 3).trans rfl; have hcz22_4 : w20.cell? ⟨gb104, 4, none⟩ = some (.string a0_4) := (blk_cell BK104.out 4).trans rfl; have hcz22_5 : w20.cell? ⟨gb104, 5, none⟩ = some (.int .i64 a0_5) := (blk_cell BK104.out 5).trans rfl; have hcz22_6 : w20.cell? ⟨gb104, 6, none⟩ = some (.int .i64 a0_6) := (blk_cell BK104.out 6).trans rfl; have hcz22_7 : w20.cell? ⟨gb104, 7, none⟩ = some (.string a0_7) := (blk_cell BK104.out 7).trans rfl; have hcz22_8 : w20.cell? ⟨gb104, 8, none⟩ = some (.int .i64 a0_8) := (blk_cell BK104.out 8).trans rfl; have hcz22_9 : w20.cell? ⟨gb104, 9, none⟩ = some (.int .i64 a0_9) := (blk_cell BK104.out 9).trans rfl; have hcz22_10 : w20.cell? ⟨gb104, 10, none⟩ = some (.int .i64 a0_10) := (blk_cell BK104.out 10).trans rfl; have hcz22_11 : w20.cell? ⟨gb104, 11, none⟩ = some (.int .i64 a0_11) := (blk_cell BK104.out 11).trans rfl; have hcz22_12 : w20.cell? ⟨gb104, 12, none⟩ = some (.slice A0_12 l0_12.length c0_12) := (blk_cell BK104.out 12).trans rfl; have hcz22_13 : w20.cell? ⟨gb104, 13, none⟩ = some (.slice A0_13 l0_13.length c0_13) := (blk_cell BK104.out 13).trans rfl; have hfz22_0 := blk_frozen BK104.out 0; have hfz22_1 := blk_frozen BK104.out 1; have hfz22_2 := blk_frozen BK104.out 2; have hfz22_3 := blk_frozen BK104.out 3; have hfz22_4 := blk_frozen BK104.out 4; have hfz22_5 := blk_frozen BK104.out 5; have hfz22_6 := blk_frozen BK104.out 6; have hfz22_7 := blk_frozen BK104.out 7; have hfz22_8 := blk_frozen BK104.out 8; have hfz22_9 := blk_frozen BK104.out 9; have hfz22_10 := blk_frozen BK104.out 10; have hfz22_11 := blk_frozen BK104.out 11; have hfz22_12 := blk_frozen BK104.out 12; have hfz22_13 := blk_frozen BK104.out 13; have hcz23_0 : w20.cell? ⟨gb105, 0, none⟩ = some (.int .i64 a1_0) := (blk_cell BK105.out 0).trans rfl; have hcz23_1 : w20.cell? ⟨gb105, 1, none⟩ = some (.int .i64 a1_1) := (blk_cell BK105.out 1).trans rfl; have hcz23_2 : w20.cell? ⟨gb105, 2, none⟩ = some (.int .i64 a1_2) := (blk_cell BK105.out 2).trans rfl; have hcz23_3 : w20.cell? ⟨gb105, 3, none⟩ = some (.int .i64 a1_3) := (blk_cell BK105.out 3).trans rfl; have hcz23_4 : w20.cell? ⟨gb105, 4, none⟩ = some (.string a1_4) := (blk_cell BK105.out 4).trans rfl; have hcz23_5 : w20.cell? ⟨gb105, 5, none⟩ = some (.int .i64 a1_5) := (blk_cell BK105.out 5).trans rfl; have hcz23_6 : w20.cell? ⟨gb105, 6, none⟩ = some (.int .i64 a1_6) := (blk_cell BK105.out 6).trans rfl; have hcz23_7 : w20.cell? ⟨gb105, 7, none⟩ = some (.string a1_7) := (blk_cell BK105.out 7).trans rfl; have hcz23_8 : w20.cell? ⟨gb105, 8, none⟩ = some (.int .i64 a1_8) := (blk_cell BK105.out 8).trans rfl; have hcz23_9 : w20.cell? ⟨gb105, 9, none⟩ = some (.int .i64 a1_9) := (blk_cell BK105.out 9).trans rfl; have hcz23_10 : w20.cell? ⟨gb105, 10, none⟩ = some (.int .i64 a1_10) := (blk_cell BK105.out 10).trans rfl; have hcz23_11 : w20.cell? ⟨gb105, 11, none⟩ = some (.int .i64 a1_11) := (blk_cell BK105.out 11).trans rfl; have hcz23_12 : w20.cell? ⟨gb105, 12, none⟩ = some (.slice A1_12 l1_12.length c1_12) := (blk_cell BK105.out 12).trans rfl; have hcz23_13 : w20.cell? ⟨gb105, 13, none⟩ = some (.slice A1_13 l1_13.length c1_13) := (blk_cell BK105.out 13).trans rfl; have hfz23_0 := blk_frozen BK105.out 0; have hfz23_1 := blk_frozen BK105.out 1; have hfz23_2 := blk_frozen BK105.out 2; have hfz23_3 := blk_frozen BK105.out 3; have hfz23_4 := blk_frozen BK105.out 4; have hfz23_5 := blk_frozen BK105.out 5; have hfz23_6 := blk_frozen BK105.out 6; have hfz23_7 := blk_frozen BK105.out 7; have hfz23_8 := blk_frozen BK105.out 8; have hfz23_9 := blk_frozen BK105.out 9; have hfz23_10 := blk_frozen BK105.out 10; have hfz23_11 := blk_frozen BK105.out 11; have hfz23_12 := blk_frozen BK105.out 12; have hfz23_13 := blk_frozen BK105.out 13) | (go_at_call 42; (with_reducible refine (computusref23_Texts.calls k _ _ l0_12 _ _ l1_12 false _ ?side1 ?side2 ?side3 ?side4 A11.out).mono ?_); (case side1 => exact ck_ (Kd.C_below HR0_12.out HB.out)); (case side2 => exact HC0_12.out); (case side3 => exact ck_ (Kd.C_below HR1_12.out HB.out)); (case side4 => exact HC1_12.out); rintro e w' ⟨rfl, ⟨nd, rfl⟩⟩))
  go_ret
  exact rt_
 subst c12
 replace H := it_ H
 obtain ⟨t107, A13, H⟩ := bs_ H
 obtain rfl := Option.some.inj H
 go_enter Tryd.func18, Tryd.ntmps18
 go_wp2_with (first | ((with_reducible refine gate_dst (N := 2) rfl ?_); refine bx_ (w := w) (N := 2) (cs := #[.int .i64 a0_0, .int .i64 a0_1, .int .i64 a0_2, .int .i64 a0_3, .string a0_4, .int .i64 a0_5, .int .i64 a0_6, .string a0_7, .int .i64 a0_8, .int .i64 a0_9, .int .i64 a0_10, .int .i64 a0_11, .slice A0_12 l0_12.length c0_12, .slice A0_13 l0_13.length c0_13]) (t := 40) ?_; intro gb104 w14 BK104 n0_ GW104 GE104; clear HB; have HB := n0_; clear n0_) | ((with_reducible refine gate_dst (N := 3) rfl ?_); refine be_ (N := 3) (cs := #[.int .i64 a1_0, .int .i64 a1_1, .int .i64 a1_2, .int .i64 a1_3, .string a1_4, .int .i64 a1_5, .int .i64 a1_6, .string a1_7, .int .i64 a1_8, .int .i64 a1_9, .int .i64 a1_10, .int .i64 a1_11, .slice A1_12 l1_12.length c1_12, .slice A1_13 l1_13.length c1_13]) (t := 40) ?_; intro gb105 hg w15 hbox hb; have BK105 := am_ (hbox); have GW105 := gw_ (w := w) hg; have GE105 := gw_ (w := w) hg; replace HB := bt_ hb; have NB104_105 := ne_ hg BK104; have NB105_104 := nf_ hg BK104; replace BK104 := bw_ BK104 hb; clear hb hbox hg; have hnb16 := NB104_105.out; have hnc16 := NB105_104.out; have hcz17_0 : w15.cell? ⟨gb104, 0, none⟩ = some (.int .i64 a0_0) := (blk_cell BK104.out 0).trans rfl; have hcz17_1 : w15.cell? ⟨gb104, 1, none⟩ = some (.int .i64 a0_1) := (blk_cell BK104.out 1).trans rfl; have hcz17_2 : w15.cell? ⟨gb104, 2, none⟩ = some (.int .i64 a0_2) := (blk_cell BK104.out 2).trans rfl; have hcz17_3 : w15.cell? ⟨gb104, 3, none⟩ = some (.int .i64 a0_3) := (blk_cell BK104.out 3).trans rfl; have hcz17_4 : w15.cell? ⟨gb104, 4, none⟩ = some (.string a0_4) := (blk_cell BK104.out 4).trans rfl; have hcz17_5 : w15.cell? ⟨gb104, 5, none⟩ = some (.int .i64 a0_5) := (blk_cell BK104.out 5).trans rfl; have hcz17_6 : w15.cell? ⟨gb104, 6, none⟩ = some (.int .i64 a0_6) := (blk_cell BK104.out 6).trans rfl; have hcz17_7 : w15.cell? ⟨gb104, 7, none⟩ = some (.string a0_7) := (blk_cell BK104.out 7).trans rfl; have hcz17_8 : w15.cell? ⟨gb104, 8, none⟩ = some (.int .i64 a0_8) := (blk_cell BK104.out 8).trans rfl; have hcz17_9 : w15.cell? ⟨gb104, 9, none⟩ = some (.int .i64 a0_9) := (blk_cell BK104.out 9).trans rfl; have hcz17_10 : w15.cell? ⟨gb104, 10, none⟩ = some (.int .i64 a0_10) := (blk_cell BK104.out 10).trans rfl; have hcz17_11 : w15.cell? ⟨gb104, 11, none⟩ = some (.int .i64 a0_11) := (blk_cell BK104.out 11).trans rfl; have hcz17_12 : w15.cell? ⟨gb104, 12, none⟩ = some (.slice A0_12 l0_12.length c0_12) := (blk_cell BK104.out 12).trans rfl; have hcz17_13 : w15.cell? ⟨gb104, 13, none⟩ = some (.slice A0_13 l0_13.length c0_13) := (blk_cell BK104.out 13).trans rfl; have hfz17_0 := blk_frozen BK104.out 0; have hfz17_1 := blk_frozen BK104.out 1; have hfz17_2 := blk_frozen BK104.out 2; have hfz17_3 := blk_frozen BK104.out 3; have hfz17_4 := blk_frozen BK104.out 4; have hfz17_5 := blk_frozen BK104.out 5; have hfz17_6 := blk_frozen BK104.out 6; have hfz17_7 := blk_frozen BK104.out 7; have hfz17_8 := blk_frozen BK104.out 8; have hfz17_9 := blk_frozen BK104.out 9; have hfz17_10 := blk_frozen BK104.out 10; have hfz17_11 := blk_frozen BK104.out 11; have hfz17_12 := blk_frozen BK104.out 12; have hfz17_13 := blk_frozen BK104.out 13; have hcz18_0 : w15.cell? ⟨gb105, 0, none⟩ = some (.int .i64 a1_0) := (blk_cell BK105.out 0).trans rfl; have hcz18_1 : w15.cell? ⟨gb105, 1, none⟩ = some (.int .i64 a1_1) := (blk_cell BK105.out 1).trans rfl; have hcz18_2 : w15.cell? ⟨gb105, 2, none⟩ = some (.int .i64 a1_2) := (blk_cell BK105.out 2).trans rfl; have hcz18_3 : w15.cell? ⟨gb105, 3, none⟩ = some (.int .i64 a1_3) := (blk_cell BK105.out 3).trans rfl; have hcz18_4 : w15.cell? ⟨gb105, 4, none⟩ = some (.string a1_4) := (blk_cell BK105.out 4).trans rfl; have hcz18_5 : w15.cell? ⟨gb105, 5, none⟩ = some (.int .i64 a1_5) := (blk_cell BK105.out 5).trans rfl; have hcz18_6 : w15.cell? ⟨gb105, 6, none⟩ = some (.int .i64 a1_6) := (blk_cell BK105.out 6).trans rfl; have hcz18_7 : w15.cell? ⟨gb105, 7, none⟩ = some (.string a1_7) := (blk_cell BK105.out 7).trans rfl; have hcz18_8 : w15.cell? ⟨gb105, 8, none⟩ = some (.int .i64 a1_8) := (blk_cell BK105.out 8).trans rfl; have hcz18_9 : w15.cell? ⟨gb105, 9, none⟩ = some (.int .i64 a1_9) := (blk_cell BK105.out 9).trans rfl; have hcz18_10 : w15.cell? ⟨gb105, 10, none⟩ = some (.int .i64 a1_10) := (blk_cell BK105.out 10).trans rfl; have hcz18_11 : w15.cell? ⟨gb105, 11, none⟩ = some (.int .i64 a1_11) := (blk_cell BK105.out 11).trans rfl; have hcz18_12 : w15.cell? ⟨gb105, 12, none⟩ = some (.slice A1_12 l1_12.length c1_12) := (blk_cell BK105.out 12).trans rfl; have hcz18_13 : w15.cell? ⟨gb105, 13, none⟩ = some (.slice A1_13 l1_13.length c1_13) := (blk_cell BK105.out 13).trans rfl; have hfz18_0 := blk_frozen BK105.out 0; have hfz18_1 := blk_frozen BK105.out 1; have hfz18_2 := blk_frozen BK105.out 2; have hfz18_3 := blk_frozen BK105.out 3; have hfz18_4 := blk_frozen BK105.out 4; have hfz18_5 := blk_frozen BK105.out 5; have hfz18_6 := blk_frozen BK105.out 6; have hfz18_7 := blk_frozen BK105.out 7; have hfz18_8 := blk_frozen BK105.out 8; have hfz18_9 := blk_frozen BK105.out 9; have hfz18_10 := blk_frozen BK105.out 10; have hfz18_11 := blk_frozen BK105.out 11; have hfz18_12 := blk_frozen BK105.out 12; have hfz18_13 := blk_frozen BK105.out 13) | (go_at_call 42; (with_reducible refine (computusref23_Texts.calls k _ _ l0_12 _ _ l1_12 true _ ?side1 ?side2 ?side3 ?side4 A11.out).mono ?_); (case side1 => exact ck_ (Kd.C_below HR0_12.out HB.out)); (case side2 => exact HC0_12.out); (case side3 => exact ck_ (Kd.C_below HR1_12.out HB.out)); (case side4 => exact HC1_12.out); rintro e w' ⟨rfl, ⟨nd, rfl⟩⟩) | (go_at_call 42; (with_reducible refine (computusref23_Texts.calls k _ _ l0_13 _ _ l1_13 t107 _ ?side1 ?side2 ?side3 ?side4 A13.out).mono ?_); (case side1 => exact ck_ (Kd.C_below HR0_13.out bh_)); (case side2 => exact HC0_13.out); (case side3 => exact ck_ (Kd.C_below HR1_13.out bh_)); (case side4 => exact HC1_13.out); rintro e w' ⟨rfl, ⟨nd, rfl⟩⟩))
 go_ret
 exact rt_
end
def IsS77 (w0 W : World) (g : Nat) (f0 : ByteArray) (f1 : Int) (f2 : Bool) : Prop := W.heap[g]? = some (.cells #[.string f0, .int .i64 f1, .bool f2] 77 (0, 0)) ∧ w0.heap.size ≤ g
theorem IsS77.grown {w0 W : World} {g : Nat} {f0 : ByteArray} {f1 : Int} {f2 : Bool} {W1 : World} {row : Option Nat} (h : IsS77 w0 W g f0 f1 f2) (hw : W.grownBy W1 row) (hne : some g ≠ row) : IsS77 w0 W1 g f0 f1 f2 := by
 obtain ⟨hb, hg⟩ := h
 exact ⟨blk_grown hb hw hne, hg⟩
theorem IsS77.kept {w0 W : World} {g : Nat} {f0 : ByteArray} {f1 : Int} {f2 : Bool} {W1 : World} {S : Nat → Prop} (h : IsS77 w0 W g f0 f1 f2) (hk : Kept W W1 S) (hne : ¬ S g) : IsS77 w0 W1 g f0 f1 f2 := by
 obtain ⟨hb, hg⟩ := h
 exact ⟨blk_kept hb hk hne, hg⟩
theorem IsS77.below {w0 W : World} {g : Nat} {f0 : ByteArray} {f1 : Int} {f2 : Bool} {W1 : World} (h : IsS77 w0 W g f0 f1 f2) (hw : Below W.heap.size W W1) : IsS77 w0 W1 g f0 f1 f2 := h.grown (grown_of_below hw none) (by simp)
theorem IsS77.alloc {w0 W : World} {g : Nat} {f0 : ByteArray} {f1 : Int} {f2 : Bool} (h : IsS77 w0 W g f0 f1 f2) (o : Obj) : IsS77 w0 (W.alloc o) g f0 f1 f2 := h.below (below_alloc (Below.refl _ _) o)
theorem IsS77.drewN {w0 W : World} {g : Nat} {f0 : ByteArray} {f1 : Int} {f2 : Bool} (h : IsS77 w0 W g f0 f1 f2) (m : Nat) : IsS77 w0 (W.drewN m) g f0 f1 f2 := h
theorem IsS77.drew {w0 W : World} {g : Nat} {f0 : ByteArray} {f1 : Int} {f2 : Bool} (h : IsS77 w0 W g f0 f1 f2) : IsS77 w0 W.drew g f0 f1 f2 := h
theorem IsS77.at_ {w0 W : World} {g : Nat} {f0 : ByteArray} {f1 : Int} {f2 : Bool} {w' : World} {m : Nat} (hq : W.drewN m = w') (h : IsS77 w0 W g f0 f1 f2) : IsS77 w0 w' g f0 f1 f2 := by subst hq; exact IsS77.drewN h m
theorem IsS77.apart {w0 W : World} {g : Nat} {f0 : ByteArray} {f1 : Int} {f2 : Bool} {α : Type} {d : Kd α} {e : Nat} {base : Nat} {ok : Nat → Prop} {v : Value} {xs : List α} (h : IsS77 w0 W g f0 f1 f2) (ho : d.R e W base ok v xs) (ht : ∀ q, q ∈ e :: d.E → q ≠ 77) : d.R e W base (fun k => ok k ∧ k ≠ g) v xs := by
 obtain ⟨hb, hg⟩ := h
 exact Kd.R_types ho hb ht
theorem IsS77.own_ne {w0 W : World} {g : Nat} {f0 : ByteArray} {f1 : Int} {f2 : Bool} {α : Type} {d : Kd α} {e : Nat} {base : Nat} {ok : Nat → Prop} {v : Value} {xs : List α} (h : IsS77 w0 W g f0 f1 f2) (ho : d.R e W base ok v xs) (ht : e ≠ 77) : some g ≠ v.ownBlock := by
 obtain ⟨hb, hg⟩ := h
 exact Kd.R_ne ho hb ht
theorem IsS77.lt {w0 W : World} {g : Nat} {f0 : ByteArray} {f1 : Int} {f2 : Bool} (h : IsS77 w0 W g f0 f1 f2) : g < W.heap.size := by
 obtain ⟨hb, hg⟩ := h
 exact blk_lt hb
theorem IsS77.ge {w0 W : World} {g : Nat} {f0 : ByteArray} {f1 : Int} {f2 : Bool} (h : IsS77 w0 W g f0 f1 f2) : w0.heap.size ≤ g := by
 obtain ⟨hb, hg⟩ := h
 exact hg
theorem IsS77.ne_blk {w0 W : World} {g : Nat} {f0 : ByteArray} {f1 : Int} {f2 : Bool} {a : Nat} {cs : Array Value} {t : TypeId} {fr : Nat × Nat} (h : IsS77 w0 W g f0 f1 f2) (hb2 : W.heap[a]? = some (.cells cs t fr)) (ht : t ≠ 77) : g ≠ a := by
 obtain ⟨hb, hg⟩ := h
 rintro rfl
 rw [hb] at hb2
 injection hb2 with hb2
 injection hb2 with _ ht2
 exact ht ht2.symm
theorem IsS77.far {w0 W : World} {g : Nat} {f0 : ByteArray} {f1 : Int} {f2 : Bool} {p : Addr} (h : IsS77 w0 W g f0 f1 f2) (hne : g ≠ p.block) (u : Value) : IsS77 w0 (W.setCell p u) g f0 f1 f2 := by
 obtain ⟨hb, hg⟩ := h
 exact ⟨blk_far hb hne u, hg⟩
theorem cellS77_0 {W : World} {g : Nat} {f0 : ByteArray} {f1 : Int} {f2 : Bool} (h : W.heap[g]? = some (.cells #[.string f0, .int .i64 f1, .bool f2] 77 (0, 0))) : W.cell? ⟨g, 0, none⟩ = some (.string f0) := (blk_cell h 0).trans rfl
theorem IsS77.set_0 {w0 W : World} {g : Nat} {f0 : ByteArray} {f1 : Int} {f2 : Bool} (h : IsS77 w0 W g f0 f1 f2) (x : ByteArray) : IsS77 w0 (W.setCell ⟨g, 0, none⟩ (.string x)) g x f1 f2 := by
 obtain ⟨hb, hg⟩ := h
 exact ⟨by simpa using blk_set hb 0 (.string x), hg⟩
theorem cellS77_1 {W : World} {g : Nat} {f0 : ByteArray} {f1 : Int} {f2 : Bool} (h : W.heap[g]? = some (.cells #[.string f0, .int .i64 f1, .bool f2] 77 (0, 0))) : W.cell? ⟨g, 1, none⟩ = some (.int .i64 f1) := (blk_cell h 1).trans rfl
theorem IsS77.set_1 {w0 W : World} {g : Nat} {f0 : ByteArray} {f1 : Int} {f2 : Bool} (h : IsS77 w0 W g f0 f1 f2) (x : Int) : IsS77 w0 (W.setCell ⟨g, 1, none⟩ (.int .i64 x)) g f0 x f2 := by
 obtain ⟨hb, hg⟩ := h
 exact ⟨by simpa using blk_set hb 1 (.int .i64 x), hg⟩
theorem cellS77_2 {W : World} {g : Nat} {f0 : ByteArray} {f1 : Int} {f2 : Bool} (h : W.heap[g]? = some (.cells #[.string f0, .int .i64 f1, .bool f2] 77 (0, 0))) : W.cell? ⟨g, 2, none⟩ = some (.bool f2) := (blk_cell h 2).trans rfl
theorem IsS77.set_2 {w0 W : World} {g : Nat} {f0 : ByteArray} {f1 : Int} {f2 : Bool} (h : IsS77 w0 W g f0 f1 f2) (x : Bool) : IsS77 w0 (W.setCell ⟨g, 2, none⟩ (.bool x)) g f0 f1 x := by
 obtain ⟨hb, hg⟩ := h
 exact ⟨by simpa using blk_set hb 2 (.bool x), hg⟩
theorem IsS77.new (w0 W : World) (f0 : ByteArray) (f1 : Int) (f2 : Bool) (hB : Below w0.heap.size w0 W) : IsS77 w0 (W.alloc (.cells #[.string f0, .int .i64 f1, .bool f2] 77)) W.heap.size f0 f1 f2 := ⟨by simpa using heap_alloc_new W _, hB.size⟩
def linescan_Scanner_next.f (s0_0 : ByteArray) (s0_1 : Int) (s0_2 : Bool) : Option (Int × Bool × ByteArray × Int × Bool) := if s0_1 ≥ (s0_0.size : Int) then (some (0, false, s0_0, s0_1, s0_2)) else (if 0 ≤ s0_1 then (if s0_1 < (s0_0.size : Int) then (some (bt s0_0 s0_1, true, s0_0, s0_1, s0_2)) else (none)) else (none))
theorem linescan_Scanner_next.calls (g : Nat) (s0_0 : ByteArray) (s0_1 : Int) (s0_2 : Bool) (r1 : Int) (r2 : Bool) (r3 : ByteArray) (r4 : Int) (r5 : Bool) (w0 w : World) (hI : IsS77 w0 w g s0_0 s0_1 s0_2) (hB : Below w0.heap.size w0 w) (h : linescan_Scanner_next.f s0_0 s0_1 s0_2 = some (r1, r2, r3, r4, r5)) :
  Calls Tryd.prog 87 #[.pointer (some ⟨g, 0, none⟩)] w fun e w' => e = .returned (.tuple #[.int .u8 r1, .bool r2]) ∧ IsS77 w0 w' g r3 r4 r5 ∧ Below w0.heap.size w0 w' ∧ KeepBut w w' g none := by
 have HI0 := am_ hI
 have HK := am_ (KeepBut.refl w g none)
 have HL := am_ hB.size
 clear hI
 have HW0 := am_ hB.size
 have HB := am_ hB
 clear hB
 have H := h
 clear h
 unfold linescan_Scanner_next.f at H
 by_cases c2 : s0_1 ≥ (s0_0.size : Int)
 ·rw [if_pos c2] at H
  have c2b0 : decide ((s0_0.size : Int) ≤ s0_1) = true := decide_eq_true c2
  clear c2
  simp only [Option.some.injEq, Prod.mk.injEq] at H
  obtain ⟨rfl, rfl, rfl, rfl, rfl⟩ := H
  obtain ⟨HGz3, hgz3⟩ := HI0.out
  have hcz3_0 := cellS77_0 HGz3
  have hcz3_1 := cellS77_1 HGz3
  have hcz3_2 := cellS77_2 HGz3
  have hfz3_0 := blk_frozen HGz3 0
  have hfz3_1 := blk_frozen HGz3 1
  have hfz3_2 := blk_frozen HGz3 2
  clear HGz3 hgz3
  go_enter Tryd.func87, Tryd.ntmps87
  go_wp2
  repeat (go_quiet (fail); try go_wp2)
  go_ret2
  exact ⟨by first | rfl | (simp [errW_none, errW_some] <;> rfl) | (simp [*, errW_none, errW_some] <;> rfl), by repeat (first | (with_reducible first | exact HI0.out | apply IsS77.alloc | apply IsS77.drewN | apply IsS77.drew | apply IsS77.set_0 | apply IsS77.set_1 | apply IsS77.set_2) | exact HI0.out), by repeat (first | (with_reducible first | exact HB.out | apply below_alloc | apply pw_below_drewN | apply below_drew1 | refine below_set ?_ (IsS77.ge HI0.out)) | exact HB.out), by repeat (first | (with_reducible first | exact HK.out | apply KeepBut.set_ | apply keep_drewN | apply keep_drew | apply keep_alloc) | exact HK.out)⟩
 rw [if_neg c2] at H
 have c2b0 : decide ((s0_0.size : Int) ≤ s0_1) = false := decide_eq_false c2
 clear c2
 by_cases c4 : 0 ≤ s0_1
 rotate_left
 ·rw [if_neg c4] at H
  exact absurd H (by simp)
 rw [if_pos c4] at H
 have c4b0 : decide (0 ≤ s0_1) = true := decide_eq_true c4
 clear c4
 by_cases c5 : s0_1 < (s0_0.size : Int)
 rotate_left
 ·rw [if_neg c5] at H
  exact absurd H (by simp)
 rw [if_pos c5] at H
 have c5b0 : decide (s0_1 < (s0_0.size : Int)) = true := decide_eq_true c5
 clear c5
 simp only [Option.some.injEq, Prod.mk.injEq] at H
 obtain ⟨rfl, rfl, rfl, rfl, rfl⟩ := H
 obtain ⟨HGz7, hgz7⟩ := HI0.out
 have hcz7_0 := cellS77_0 HGz7
 have hcz7_1 := cellS77_1 HGz7
 have hcz7_2 := cellS77_2 HGz7
 have hfz7_0 := blk_frozen HGz7 0
 have hfz7_1 := blk_frozen HGz7 1
 have hfz7_2 := blk_frozen HGz7 2
 clear HGz7 hgz7
 have p6 : 0 ≤ (s0_1 : Int) := of_decide_eq_true as_
 have q6 : s0_1 < (s0_0.size : Int) := of_decide_eq_true as_
 have hx6 := bt_at s0_0 s0_1
 replace p6 := eq_true p6
 replace q6 := eq_true q6
 go_enter Tryd.func87, Tryd.ntmps87
 go_wp2
 repeat (go_quiet (fail); try go_wp2)
 go_ret2
 exact ⟨by first | rfl | (simp [errW_none, errW_some] <;> rfl) | (simp [*, errW_none, errW_some] <;> rfl), by repeat (first | (with_reducible first | exact HI0.out | apply IsS77.alloc | apply IsS77.drewN | apply IsS77.drew | apply IsS77.set_0 | apply IsS77.set_1 | apply IsS77.set_2) | exact HI0.out), by repeat (first | (with_reducible first | exact HB.out | apply below_alloc | apply pw_below_drewN | apply below_drew1 | refine below_set ?_ (IsS77.ge HI0.out)) | exact HB.out), by repeat (first | (with_reducible first | exact HK.out | apply KeepBut.set_ | apply keep_drewN | apply keep_drew | apply keep_alloc) | exact HK.out)⟩
def computusref25_prefix.l0 : Nat → ByteArray → Int → ByteArray → Int → Option (Int)
 | 0, _, _, _, _ => none
 | k + 1, x0, x1, x2, x7 => if x7 < (x2.size : Int) then (if (wrap64 (x1 + x7)) < (x0.size : Int) then (if 0 ≤ (wrap64 (x1 + x7)) then (if 0 ≤ x7 then (if (bt x0 (wrap64 (x1 + x7))) = (bt x2 x7) then (computusref25_prefix.l0 k x0 x1 x2 (wrap64 (x7 + 1))) else (some x7)) else (none)) else (none)) else (some x7)) else (some x7)
def computusref25_prefix.f (k : Nat) (a0 : ByteArray) (a1 : Int) (a2 : ByteArray) : Option (Int) := computusref25_prefix.l0 k a0 a1 a2 0
theorem computusref25_prefix.calls (k : Nat) (a0 : ByteArray) (a1 : Int) (a2 : ByteArray) (r : Int) (w : World) (h : computusref25_prefix.f k a0 a1 a2 = some r) :
  Calls Tryd.prog 61 #[.string a0, .int .i64 a1, .string a2] w fun e w' => e = .returned (.int .i64 r) ∧ Drawn0 w w' := by
 have H := h
 clear h
 unfold computusref25_prefix.f at H
 have H' := am_ H
 clear H
 go_enter Tryd.func61, Tryd.ntmps61
 go_wp2
 repeat (go_quiet (fail); try go_wp2)
 go_loopg [7] k (fun kq v7 w' => ∃ (x7_1 : Int), v7 = .int .i64 x7_1 ∧ Aside0 (computusref25_prefix.l0 kq a0 a1 a2 x7_1 = some r) ∧ Aside0 (kq ≤ k) ∧ Drawn0 w w')
 case atStart => exact ⟨(0), rs_, H', ⟨Nat.le_refl _⟩, by repeat (first | exact Drawn0.refl _ | apply Drawn0.step)⟩
 case round =>
  clear H'
  obtain ⟨x7_1, rfl, HA, HK1, ⟨m1, rfl⟩⟩ := hrel
  cases gk with
  | zero => exact absurd HA.out (by simp [computusref25_prefix.l0])
  | succ k1 =>
   have H := HA.out
   clear HA
   simp only [computusref25_prefix.l0] at H
   by_cases c4 : x7_1 < (a2.size : Int)
   rotate_left
   ·rw [if_neg c4] at H
    have c4b0 : decide (x7_1 < (a2.size : Int)) = false := decide_eq_false c4
    clear c4
    obtain rfl := Option.some.inj H
    go_wp2
    repeat (go_quiet (fail); try go_wp2)
    go_ret
    exact ⟨by first | rfl | (simp; done) | (simp [*]; done), by repeat (first | exact Drawn0.refl _ | apply Drawn0.step)⟩
   rw [if_pos c4] at H
   have c4b0 : decide (x7_1 < (a2.size : Int)) = true := decide_eq_true c4
   clear c4
   by_cases c5 : (wrap64 (a1 + x7_1)) < (a0.size : Int)
   rotate_left
   ·rw [if_neg c5] at H
    have c5b0 : decide ((wrap64 (a1 + x7_1)) < (a0.size : Int)) = false := decide_eq_false c5
    clear c5
    obtain rfl := Option.some.inj H
    go_wp2
    repeat (go_quiet (fail); try go_wp2)
    go_ret
    exact ⟨by first | rfl | (simp; done) | (simp [*]; done), by repeat (first | exact Drawn0.refl _ | apply Drawn0.step)⟩
   rw [if_pos c5] at H
   have c5b0 : decide ((wrap64 (a1 + x7_1)) < (a0.size : Int)) = true := decide_eq_true c5
   clear c5
   obtain ⟨ji6, hji6⟩ : ∃ j_ : Int, (wrap64 (a1 + x7_1)) = j_ := ⟨_, rfl⟩
   replace H : (if 0 ≤ (ji6) then (if 0 ≤ x7_1 then (if (bt a0 (ji6)) = (bt a2 x7_1) then (computusref25_prefix.l0 k1 a0 a1 a2 (wrap64 (x7_1 + 1))) else (some x7_1)) else (none)) else (none)) = some r := by first | (rw [hji6] at H; exact H) | (simp only [hji6] at H ⊢; exact H)
   (try rw [hji6] at c5b0)
   have hji6w : (IntKind.i64.wrap (a1 + x7_1)) = ji6 := (i64_w _).trans hji6
   by_cases c7 : 0 ≤ (ji6)
   rotate_left
   ·rw [if_neg c7] at H
    exact absurd H (by simp)
   rw [if_pos c7] at H
   have c7b0 : decide (0 ≤ (ji6)) = true := decide_eq_true c7
   clear c7
   by_cases c9 : 0 ≤ x7_1
   rotate_left
   ·rw [if_neg c9] at H
    exact absurd H (by simp)
   rw [if_pos c9] at H
   have c9b0 : decide (0 ≤ x7_1) = true := decide_eq_true c9
   clear c9
   by_cases c11 : (bt a0 (ji6)) = (bt a2 x7_1)
   rotate_left
   ·rw [if_neg c11] at H
    have c11b0 : ((bt a0 (ji6)) == (bt a2 x7_1)) = false := beq_eq_false_iff_ne.mpr c11
    have c11b1 : ((bt a0 (ji6)) != (bt a2 x7_1)) = true := bne_iff_ne.mpr c11
    obtain rfl := Option.some.inj H
    have p8 : 0 ≤ ((ji6) : Int) := of_decide_eq_true as_
    have q8 : (ji6) < (a0.size : Int) := of_decide_eq_true as_
    have hx8 := bt_at a0 (ji6)
    replace p8 := eq_true p8
    replace q8 := eq_true q8
    have p10 : 0 ≤ (x7_1 : Int) := of_decide_eq_true as_
    have q10 : x7_1 < (a2.size : Int) := of_decide_eq_true as_
    have hx10 := bt_at a2 x7_1
    replace p10 := eq_true p10
    replace q10 := eq_true q10
    go_wp2
    repeat (go_quiet (fail); try go_wp2)
    go_ret
    exact ⟨by first | rfl | (simp; done) | (simp only [← hji6] <;> (first | rfl | simp)) | (simp [*]; done), by repeat (first | exact Drawn0.refl _ | apply Drawn0.step)⟩
   rw [if_pos c11] at H
   have c11b0 : ((bt a0 (ji6)) == (bt a2 x7_1)) = true := beq_iff_eq.mpr c11
   have c11b1 : ((bt a0 (ji6)) != (bt a2 x7_1)) = false := bne_eq_false_iff_eq.mpr c11
   clear c11
   have H' := am_ H
   clear H
   have p8 : 0 ≤ ((ji6) : Int) := of_decide_eq_true as_
   have q8 : (ji6) < (a0.size : Int) := of_decide_eq_true as_
   have hx8 := bt_at a0 (ji6)
   replace p8 := eq_true p8
   replace q8 := eq_true q8
   have p10 : 0 ≤ (x7_1 : Int) := of_decide_eq_true as_
   have q10 : x7_1 < (a2.size : Int) := of_decide_eq_true as_
   have hx10 := bt_at a2 x7_1
   replace p10 := eq_true p10
   replace q10 := eq_true q10
   go_wp2
   repeat (go_quiet (fail); try go_wp2)
   go_roundg k1
   case measure => have := HK1.out; omega
   case rel => exact ⟨(wrap64 (x7_1 + 1)), rs_, H', ⟨by have := HK1.out; omega⟩, by repeat (first | exact Drawn0.refl _ | apply Drawn0.step)⟩
def computusref25_fail.f (a0_0 : ByteArray) (a0_1 : Int) (a0_2 : Bool) (a1 : Int) : Option (ByteArray × Int × Bool) := some (a0_0, a1, true)
theorem computusref25_fail.calls (a0_0 : ByteArray) (a0_1 : Int) (a0_2 : Bool) (a1 : Int) (r1 : ByteArray) (r2 : Int) (r3 : Bool) (w : World) (h : computusref25_fail.f a0_0 a0_1 a0_2 a1 = some (r1, r2, r3)) :
  Calls Tryd.prog 62 #[.agg #[.string a0_0, .int .i64 a0_1, .bool a0_2], .int .i64 a1] w fun e w' => e = .returned (.agg #[.string r1, .int .i64 r2, .bool r3]) ∧ Below w.heap.size w w' := by
 have hu54 := Tryd.underlying54
 have HB := am_ (Below.refl w.heap.size w)
 have H := h
 clear h
 unfold computusref25_fail.f at H
 simp only [Option.some.injEq, Prod.mk.injEq] at H
 obtain ⟨rfl, rfl, rfl⟩ := H
 go_enter Tryd.func62, Tryd.ntmps62
 go_wp2_with (first | ((with_reducible refine gate_dst (N := 2) rfl ?_); refine bx_ (w := w) (N := 2) (cs := #[.string a0_0, .int .i64 a0_1, .bool a0_2]) (t := 54) ?_; intro gb133 w3 BK133 n0_ GW133 GE133; clear HB; have HB := n0_; clear n0_) | ((with_reducible refine gate_dst (N := 4) rfl ?_); refine be_ (N := 4) (cs := #[.string (⟨#[]⟩ : ByteArray), .int .i64 0, .bool false]) (t := 54) ?_; intro gb134 hg w4 hbox hb; have BK134 := am_ (hbox); have GW134 := gw_ (w := w) hg; have GE134 := gw_ (w := w) hg; replace HB := bt_ hb; have NB133_134 := ne_ hg BK133; have NB134_133 := nf_ hg BK133; replace BK133 := bw_ BK133 hb; clear hb hbox hg; have hnb5 := NB133_134.out; have hnc5 := NB134_133.out; obtain ⟨hcz6_0, hcz6_1, hcz6_2⟩ := cz3_ BK133.out; obtain ⟨hfz6_0, hfz6_1, hfz6_2⟩ := fz3_ BK133.out; obtain ⟨hcz7_0, hcz7_1, hcz7_2⟩ := cz3_ BK134.out; obtain ⟨hfz7_0, hfz7_1, hfz7_2⟩ := fz3_ BK134.out))
 refine bodyPost_ret (results_cell_row rfl _ _ gb134 54 #[.string a0_0, .int .i64 a1, .bool true] (0, 0) _ rfl (by refine bp_ ?_; refine blk_put (cs := #[.string a0_0, .int .i64 a1, .bool false]) ?_ 2 _ rfl; refine bp_ ?_; refine blk_put (cs := #[.string a0_0, .int .i64 0, .bool false]) ?_ 1 _ rfl; refine bp_ ?_; refine blk_put (cs := #[.string (⟨#[]⟩ : ByteArray), .int .i64 0, .bool false]) ?_ 0 _ rfl; exact bk_ BK134.out) Tryd.underlying54 rfl (by kernel_rfl)) rfl ?_
 exact rt_
def computusref25_Word.l0 : Nat → List ByteArray → Int → Int → ByteArray → Int → Bool → Option (ByteArray × Int × Bool × Int)
 | 0, _, _, _, _, _, _ => none
 | k + 1, x1, x6, x7, x136000, x136001, x136002 => if x7 < (x1.length : Int) then (if 0 ≤ x7 then ((computusref25_prefix.f k x136000 x136001 (rdOf ByteArray.empty x1 x7)).bind fun t141 => (if t141 = ((rdOf ByteArray.empty x1 x7).size : Int) then (some (x136000, wrap64 (x136001 + t141), false, x7)) else (if t141 > x6 then (computusref25_Word.l0 k x1 t141 (wrap64 (x7 + 1)) x136000 x136001 x136002) else (computusref25_Word.l0 k x1 x6 (wrap64 (x7 + 1)) x136000 x136001 x136002)))) else (none)) else ((computusref25_fail.f x136000 x136001 x136002 (wrap64 (x136001 + x6))).bind fun bt137 => (some (bt137.1, bt137.2.1, bt137.2.2, (-1))))
def computusref25_Word.f (k : Nat) (a0_0 : ByteArray) (a0_1 : Int) (a0_2 : Bool) (l1 : List ByteArray) : Option (ByteArray × Int × Bool × Int) := if a0_2 = true then (some (a0_0, a0_1, a0_2, (-1))) else (computusref25_Word.l0 k l1 0 0 a0_0 a0_1 a0_2)
theorem computusref25_Word.calls (k : Nat) (a0_0 : ByteArray) (a0_1 : Int) (a0_2 : Bool) (A1 : Option Addr) (c1 : Nat) (l1 : List ByteArray) (r1 : ByteArray) (r2 : Int) (r3 : Bool) (r4 : Int) (w : World) (hr1 : Kd.C Kd.string w A1 l1.length l1) (hc1 : l1.length ≤ c1) (h : computusref25_Word.f k a0_0 a0_1 a0_2 l1 = some (r1, r2, r3, r4)) :
  Calls Tryd.prog 26 #[.agg #[.string a0_0, .int .i64 a0_1, .bool a0_2], .slice A1 l1.length c1] w fun e w' => e = .returned (.tuple #[.agg #[.string r1, .int .i64 r2, .bool r3], .int .i64 r4]) ∧ Below w.heap.size w w' := by
 have hu54 := Tryd.underlying54
 have HR1 := Aside0.mk hr1
 have HC1 := Aside0.mk hc1
 clear hr1 hc1
 have HB := Aside0.mk (Below.refl w.heap.size w)
 have H : (if a0_2 = true then (some (a0_0, a0_1, a0_2, (-1))) else (computusref25_Word.l0 k l1 0 0 a0_0 a0_1 a0_2)) = some (r1, r2, r3, r4) := h
 clear h
 by_cases c3 : a0_2 = true
 ·subst c3
  have H1 : (some (a0_0, a0_1, true, (-1))) = some (r1, r2, r3, r4) := by rw [if_pos rfl] at H; exact H
  clear H
  have H := H1
  clear H1
  simp only [Option.some.injEq, Prod.mk.injEq] at H
  obtain ⟨rfl, rfl, rfl, rfl⟩ := H
  go_enter Tryd.func26, Tryd.ntmps26
  go_wp2_with (first | ((with_reducible refine gate_dst (N := 2) rfl ?_); refine box_event ?hg (N := 2) ?hd (cs := #[.string a0_0, .int .i64 a0_1, .bool true]) (t := 54) ?hr ?_; (case hd => rfl); (case hg => rfl); (case hr => first | (go_simp; done) | (go_simp; rfl)); intro gb135 hg w4 hbox hb; have n0_ := Aside0.mk (below_step (by repeat (first | (with_reducible first | exact HB.out | apply below_alloc | apply pw_below_drewN | apply below_drew1) | exact HB.out)) hb); have n1_ := Aside0.mk (hbox); have n2_ := Aside0.mk ((by rw [hg]; exact (below_size (by repeat (first | (with_reducible first | exact HB.out | apply below_alloc | apply pw_below_drewN | apply below_drew1) | exact HB.out))) : w.heap.size ≤ gb135)); have n3_ := Aside0.mk ((by rw [hg]; exact (below_size (by repeat (first | (with_reducible first | exact HB.out | apply below_alloc | apply pw_below_drewN | apply below_drew1) | exact HB.out))) : w.heap.size ≤ gb135)); clear HB; have HB := n0_; have BK135 := n1_; have GW135 := n2_; have GE135 := n3_; clear n0_ n1_ n2_ n3_; clear hb hbox hg) | ((with_reducible refine gate_dst (N := 4) rfl ?_); refine box_event ?hg (N := 4) ?hd (cs := #[.string (⟨#[]⟩ : ByteArray), .int .i64 0, .bool false]) (t := 54) ?hr ?_; (case hd => rfl); (case hg => rfl); (case hr => first | (go_simp; done) | (go_simp; rfl)); intro gb136 hg w5 hbox hb; have n0_ := Aside0.mk (blk_below (g := gb135) (o := .cells #[.string a0_0, .int .i64 a0_1, .bool true] 54 (0, 0)) (by (with_reducible repeat (first | refine blk_drewN ?_ _ | refine blk_drew ?_ | refine blk_alloc ?_ _)); exact BK135.out) hb); have n1_ := Aside0.mk (below_step (by repeat (first | (with_reducible first | exact HB.out | apply below_alloc | apply pw_below_drewN | apply below_drew1 | refine below_set ?_ GE135.out) | exact HB.out)) hb); have n2_ := Aside0.mk (hbox); have n3_ := Aside0.mk ((by rw [hg]; exact (below_size (by repeat (first | (with_reducible first | exact HB.out | apply below_alloc | apply pw_below_drewN | apply below_drew1 | refine below_set ?_ GE135.out) | exact HB.out))) : w.heap.size ≤ gb136)); have n4_ := Aside0.mk ((by rw [hg]; exact (below_size (by repeat (first | (with_reducible first | exact HB.out | apply below_alloc | apply pw_below_drewN | apply below_drew1 | refine below_set ?_ GE135.out) | exact HB.out))) : w.heap.size ≤ gb136)); have n5_ := Aside0.mk ((by rw [hg]; exact Nat.ne_of_lt (blk_lt (g := gb135) (o := .cells #[.string a0_0, .int .i64 a0_1, .bool true] 54 (0, 0)) (by (with_reducible repeat (first | refine blk_drewN ?_ _ | refine blk_drew ?_ | refine blk_alloc ?_ _)); exact BK135.out)) : gb135 ≠ gb136)); have n6_ := Aside0.mk ((by rw [hg]; exact Nat.ne_of_gt (blk_lt (g := gb135) (o := .cells #[.string a0_0, .int .i64 a0_1, .bool true] 54 (0, 0)) (by (with_reducible repeat (first | refine blk_drewN ?_ _ | refine blk_drew ?_ | refine blk_alloc ?_ _)); exact BK135.out)) : gb136 ≠ gb135)); clear BK135; clear HB; have BK135 := n0_; have HB := n1_; have BK136 := n2_; have GW136 := n3_; have GE136 := n4_; have NB135_136 := n5_; have NB136_135 := n6_; clear n0_ n1_ n2_ n3_ n4_ n5_ n6_; clear hb hbox hg; have hnb6 := NB135_136.out; have hnc6 := NB136_135.out; have hcz7_0 : w5.cell? ⟨gb135, 0, none⟩ = some (.string a0_0) := (blk_cell BK135.out 0).trans rfl; have hcz7_1 : w5.cell? ⟨gb135, 1, none⟩ = some (.int .i64 a0_1) := (blk_cell BK135.out 1).trans rfl; have hcz7_2 : w5.cell? ⟨gb135, 2, none⟩ = some (.bool true) := (blk_cell BK135.out 2).trans rfl; have hfz7_0 := blk_frozen BK135.out 0; have hfz7_1 := blk_frozen BK135.out 1; have hfz7_2 := blk_frozen BK135.out 2; have hcz8_0 : w5.cell? ⟨gb136, 0, none⟩ = some (.string (⟨#[]⟩ : ByteArray)) := (blk_cell BK136.out 0).trans rfl; have hcz8_1 : w5.cell? ⟨gb136, 1, none⟩ = some (.int .i64 0) := (blk_cell BK136.out 1).trans rfl; have hcz8_2 : w5.cell? ⟨gb136, 2, none⟩ = some (.bool false) := (blk_cell BK136.out 2).trans rfl; have hfz8_0 := blk_frozen BK136.out 0; have hfz8_1 := blk_frozen BK136.out 1; have hfz8_2 := blk_frozen BK136.out 2))
  repeat (go_quiet (first | ((with_reducible refine gate_dst (N := 2) rfl ?_); refine box_event ?hg (N := 2) ?hd (cs := #[.string a0_0, .int .i64 a0_1, .bool true]) (t := 54) ?hr ?_; (case hd => rfl); (case hg => rfl); (case hr => first | (go_simp; done) | (go_simp; rfl)); intro gb135 hg w4 hbox hb; have n0_ := Aside0.mk (below_step (by repeat (first | (with_reducible first | exact HB.out | apply below_alloc | apply pw_below_drewN | apply below_drew1) | exact HB.out)) hb); have n1_ := Aside0.mk (hbox); have n2_ := Aside0.mk ((by rw [hg]; exact (below_size (by repeat (first | (with_reducible first | exact HB.out | apply below_alloc | apply pw_below_drewN | apply below_drew1) | exact HB.out))) : w.heap.size ≤ gb135)); have n3_ := Aside0.mk ((by rw [hg]; exact (below_size (by repeat (first | (with_reducible first | exact HB.out | apply below_alloc | apply pw_below_drewN | apply below_drew1) | exact HB.out))) : w.heap.size ≤ gb135)); clear HB; have HB := n0_; have BK135 := n1_; have GW135 := n2_; have GE135 := n3_; clear n0_ n1_ n2_ n3_; clear hb hbox hg) | ((with_reducible refine gate_dst (N := 4) rfl ?_); refine box_event ?hg (N := 4) ?hd (cs := #[.string (⟨#[]⟩ : ByteArray), .int .i64 0, .bool false]) (t := 54) ?hr ?_; (case hd => rfl); (case hg => rfl); (case hr => first | (go_simp; done) | (go_simp; rfl)); intro gb136 hg w5 hbox hb; have n0_ := Aside0.mk (blk_below (g := gb135) (o := .cells #[.string a0_0, .int .i64 a0_1, .bool true] 54 (0, 0)) (by (with_reducible repeat (first | refine blk_drewN ?_ _ | refine blk_drew ?_ | refine blk_alloc ?_ _)); exact BK135.out) hb); have n1_ := Aside0.mk (below_step (by repeat (first | (with_reducible first | exact HB.out | apply below_alloc | apply pw_below_drewN | apply below_drew1 | refine below_set ?_ GE135.out) | exact HB.out)) hb); have n2_ := Aside0.mk (hbox); have n3_ := Aside0.mk ((by rw [hg]; exact (below_size (by repeat (first | (with_reducible first | exact HB.out | apply below_alloc | apply pw_below_drewN | apply below_drew1 | refine below_set ?_ GE135.out) | exact HB.out))) : w.heap.size ≤ gb136)); have n4_ := Aside0.mk ((by rw [hg]; exact (below_size (by repeat (first | (with_reducible first | exact HB.out | apply below_alloc | apply pw_below_drewN | apply below_drew1 | refine below_set ?_ GE135.out) | exact HB.out))) : w.heap.size ≤ gb136)); have n5_ := Aside0.mk ((by rw [hg]; exact Nat.ne_of_lt (blk_lt (g := gb135) (o := .cells #[.string a0_0, .int .i64 a0_1, .bool true] 54 (0, 0)) (by (with_reducible repeat (first | refine blk_drewN ?_ _ | refine blk_drew ?_ | refine blk_alloc ?_ _)); exact BK135.out)) : gb135 ≠ gb136)); have n6_ := Aside0.mk ((by rw [hg]; exact Nat.ne_of_gt (blk_lt (g := gb135) (o := .cells #[.string a0_0, .int .i64 a0_1, .bool true] 54 (0, 0)) (by (with_reducible repeat (first | refine blk_drewN ?_ _ | refine blk_drew ?_ | refine blk_alloc ?_ _)); exact BK135.out)) : gb136 ≠ gb135)); clear BK135; clear HB; have BK135 := n0_; have HB := n1_; have BK136 := n2_; have GW136 := n3_; have GE136 := n4_; have NB135_136 := n5_; have NB136_135 := n6_; clear n0_ n1_ n2_ n3_ n4_ n5_ n6_; clear hb hbox hg; have hnb6 := NB135_136.out; have hnc6 := NB136_135.out; have hcz7_0 : w5.cell? ⟨gb135, 0, none⟩ = some (.string a0_0) := (blk_cell BK135.out 0).trans rfl; have hcz7_1 : w5.cell? ⟨gb135, 1, none⟩ = some (.int .i64 a0_1) := (blk_cell BK135.out 1).trans rfl; have hcz7_2 : w5.cell? ⟨gb135, 2, none⟩ = some (.bool true) := (blk_cell BK135.out 2).trans rfl; have hfz7_0 := blk_frozen BK135.out 0; have hfz7_1 := blk_frozen BK135.out 1; have hfz7_2 := blk_frozen BK135.out 2; have hcz8_0 : w5.cell? ⟨gb136, 0, none⟩ = some (.string (⟨#[]⟩ : ByteArray)) := (blk_cell BK136.out 0).trans rfl; have hcz8_1 : w5.cell? ⟨gb136, 1, none⟩ = some (.int .i64 0) := (blk_cell BK136.out 1).trans rfl; have hcz8_2 : w5.cell? ⟨gb136, 2, none⟩ = some (.bool false) := (blk_cell BK136.out 2).trans rfl; have hfz8_0 := blk_frozen BK136.out 0; have hfz8_1 := blk_frozen BK136.out 1; have hfz8_2 := blk_frozen BK136.out 2)); try go_wp2_with (first | ((with_reducible refine gate_dst (N := 2) rfl ?_); refine box_event ?hg (N := 2) ?hd (cs := #[.string a0_0, .int .i64 a0_1, .bool true]) (t := 54) ?hr ?_; (case hd => rfl); (case hg => rfl); (case hr => first | (go_simp; done) | (go_simp; rfl)); intro gb135 hg w4 hbox hb; have n0_ := Aside0.mk (below_step (by repeat (first | (with_reducible first | exact HB.out | apply below_alloc | apply pw_below_drewN | apply below_drew1) | exact HB.out)) hb); have n1_ := Aside0.mk (hbox); have n2_ := Aside0.mk ((by rw [hg]; exact (below_size (by repeat (first | (with_reducible first | exact HB.out | apply below_alloc | apply pw_below_drewN | apply below_drew1) | exact HB.out))) : w.heap.size ≤ gb135)); have n3_ := Aside0.mk ((by rw [hg]; exact (below_size (by repeat (first | (with_reducible first | exact HB.out | apply below_alloc | apply pw_below_drewN | apply below_drew1) | exact HB.out))) : w.heap.size ≤ gb135)); clear HB; have HB := n0_; have BK135 := n1_; have GW135 := n2_; have GE135 := n3_; clear n0_ n1_ n2_ n3_; clear hb hbox hg) | ((with_reducible refine gate_dst (N := 4) rfl ?_); refine box_event ?hg (N := 4) ?hd (cs := #[.string (⟨#[]⟩ : ByteArray), .int .i64 0, .bool false]) (t := 54) ?hr ?_; (case hd => rfl); (case hg => rfl); (case hr => first | (go_simp; done) | (go_simp; rfl)); intro gb136 hg w5 hbox hb; have n0_ := Aside0.mk (blk_below (g := gb135) (o := .cells #[.string a0_0, .int .i64 a0_1, .bool true] 54 (0, 0)) (by (with_reducible repeat (first | refine blk_drewN ?_ _ | refine blk_drew ?_ | refine blk_alloc ?_ _)); exact BK135.out) hb); have n1_ := Aside0.mk (below_step (by repeat (first | (with_reducible first | exact HB.out | apply below_alloc | apply pw_below_drewN | apply below_drew1 | refine below_set ?_ GE135.out) | exact HB.out)) hb); have n2_ := Aside0.mk (hbox); have n3_ := Aside0.mk ((by rw [hg]; exact (below_size (by repeat (first | (with_reducible first | exact HB.out | apply below_alloc | apply pw_below_drewN | apply below_drew1 | refine below_set ?_ GE135.out) | exact HB.out))) : w.heap.size ≤ gb136)); have n4_ := Aside0.mk ((by rw [hg]; exact (below_size (by repeat (first | (with_reducible first | exact HB.out | apply below_alloc | apply pw_below_drewN | apply below_drew1 | refine below_set ?_ GE135.out) | exact HB.out))) : w.heap.size ≤ gb136)); have n5_ := Aside0.mk ((by rw [hg]; exact Nat.ne_of_lt (blk_lt (g := gb135) (o := .cells #[.string a0_0, .int .i64 a0_1, .bool true] 54 (0, 0)) (by (with_reducible repeat (first | refine blk_drewN ?_ _ | refine blk_drew ?_ | refine blk_alloc ?_ _)); exact BK135.out)) : gb135 ≠ gb136)); have n6_ := Aside0.mk ((by rw [hg]; exact Nat.ne_of_gt (blk_lt (g := gb135) (o := .cells #[.string a0_0, .int .i64 a0_1, .bool true] 54 (0, 0)) (by (with_reducible repeat (first | refine blk_drewN ?_ _ | refine blk_drew ?_ | refine blk_alloc ?_ _)); exact BK135.out)) : gb136 ≠ gb135)); clear BK135; clear HB; have BK135 := n0_; have HB := n1_; have BK136 := n2_; have GW136 := n3_; have GE136 := n4_; have NB135_136 := n5_; have NB136_135 := n6_; clear n0_ n1_ n2_ n3_ n4_ n5_ n6_; clear hb hbox hg; have hnb6 := NB135_136.out; have hnc6 := NB136_135.out; have hcz7_0 : w5.cell? ⟨gb135, 0, none⟩ = some (.string a0_0) := (blk_cell BK135.out 0).trans rfl; have hcz7_1 : w5.cell? ⟨gb135, 1, none⟩ = some (.int .i64 a0_1) := (blk_cell BK135.out 1).trans rfl; have hcz7_2 : w5.cell? ⟨gb135, 2, none⟩ = some (.bool true) := (blk_cell BK135.out 2).trans rfl; have hfz7_0 := blk_frozen BK135.out 0; have hfz7_1 := blk_frozen BK135.out 1; have hfz7_2 := blk_frozen BK135.out 2; have hcz8_0 : w5.cell? ⟨gb136, 0, none⟩ = some (.string (⟨#[]⟩ : ByteArray)) := (blk_cell BK136.out 0).trans rfl; have hcz8_1 : w5.cell? ⟨gb136, 1, none⟩ = some (.int .i64 0) := (blk_cell BK136.out 1).trans rfl; have hcz8_2 : w5.cell? ⟨gb136, 2, none⟩ = some (.bool false) := (blk_cell BK136.out 2).trans rfl; have hfz8_0 := blk_frozen BK136.out 0; have hfz8_1 := blk_frozen BK136.out 1; have hfz8_2 := blk_frozen BK136.out 2)))
  refine bodyPost_ret (results_ct rfl _ _ gb136 54 #[.string a0_0, .int .i64 a0_1, .bool true] (0, 0) _ rfl (by (with_reducible repeat (first | refine blk_drewN ?_ _ | refine blk_drew ?_ | refine blk_alloc ?_ _)); refine blk_put (cs := #[.string a0_0, .int .i64 a0_1, .bool false]) ?_ 2 _ rfl; (with_reducible repeat (first | refine blk_drewN ?_ _ | refine blk_drew ?_ | refine blk_alloc ?_ _)); refine blk_put (cs := #[.string a0_0, .int .i64 0, .bool false]) ?_ 1 _ rfl; (with_reducible repeat (first | refine blk_drewN ?_ _ | refine blk_drew ?_ | refine blk_alloc ?_ _)); refine blk_put (cs := #[.string (⟨#[]⟩ : ByteArray), .int .i64 0, .bool false]) ?_ 0 _ rfl; (with_reducible repeat (first | refine blk_drewN ?_ _ | refine blk_drew ?_ | refine blk_alloc ?_ _)); exact BK136.out) Tryd.underlying54 rfl (by kernel_rfl)) rfl ?_
  exact ⟨by first | rfl | (simp [errW_none, errW_some] <;> rfl) | (simp [*, errW_none, errW_some] <;> rfl), by repeat (first | (with_reducible first | exact HB.out | apply below_alloc | apply pw_below_drewN | apply below_drew1 | refine below_set ?_ GE135.out | refine below_set ?_ GE136.out) | exact HB.out)⟩
 ·replace c3 := Bool.eq_false_iff.mpr c3
  subst c3
  have H1 : (computusref25_Word.l0 k l1 0 0 a0_0 a0_1 false) = some (r1, r2, r3, r4) := by rw [if_neg (show ¬ (false = true) by decide)] at H; exact H
  clear H
  have H := H1
  clear H1
  have H' := Aside0.mk H
  clear H
  go_enter Tryd.func26, Tryd.ntmps26
  go_wp2_with (first | ((with_reducible refine gate_dst (N := 2) rfl ?_); refine box_event ?hg (N := 2) ?hd (cs := #[.string a0_0, .int .i64 a0_1, .bool false]) (t := 54) ?hr ?_; (case hd => rfl); (case hg => rfl); (case hr => first | (go_simp; done) | (go_simp; rfl)); intro gb135 hg w9 hbox hb; have n0_ := Aside0.mk (below_step (by repeat (first | (with_reducible first | exact HB.out | apply below_alloc | apply pw_below_drewN | apply below_drew1) | exact HB.out)) hb); have n1_ := Aside0.mk (hbox); have n2_ := Aside0.mk ((by rw [hg]; exact (below_size (by repeat (first | (with_reducible first | exact HB.out | apply below_alloc | apply pw_below_drewN | apply below_drew1) | exact HB.out))) : w.heap.size ≤ gb135)); have n3_ := Aside0.mk ((by rw [hg]; exact (below_size (by repeat (first | (with_reducible first | exact HB.out | apply below_alloc | apply pw_below_drewN | apply below_drew1) | exact HB.out))) : w.heap.size ≤ gb135)); clear HB; have HB := n0_; have BK135 := n1_; have GW135 := n2_; have GE135 := n3_; clear n0_ n1_ n2_ n3_; clear hb hbox hg) | ((with_reducible refine gate_dst (N := 4) rfl ?_); refine box_event ?hg (N := 4) ?hd (cs := #[.string (⟨#[]⟩ : ByteArray), .int .i64 0, .bool false]) (t := 54) ?hr ?_; (case hd => rfl); (case hg => rfl); (case hr => first | (go_simp; done) | (go_simp; rfl)); intro gb136 hg w10 hbox hb; have n0_ := Aside0.mk (blk_below (g := gb135) (o := .cells #[.string a0_0, .int .i64 a0_1, .bool false] 54 (0, 0)) (by (with_reducible repeat (first | refine blk_drewN ?_ _ | refine blk_drew ?_ | refine blk_alloc ?_ _)); exact BK135.out) hb); have n1_ := Aside0.mk (below_step (by repeat (first | (with_reducible first | exact HB.out | apply below_alloc | apply pw_below_drewN | apply below_drew1 | refine below_set ?_ GE135.out) | exact HB.out)) hb); have n2_ := Aside0.mk (hbox); have n3_ := Aside0.mk ((by rw [hg]; exact (below_size (by repeat (first | (with_reducible first | exact HB.out | apply below_alloc | apply pw_below_drewN | apply below_drew1 | refine below_set ?_ GE135.out) | exact HB.out))) : w.heap.size ≤ gb136)); have n4_ := Aside0.mk ((by rw [hg]; exact (below_size (by repeat (first | (with_reducible first | exact HB.out | apply below_alloc | apply pw_below_drewN | apply below_drew1 | refine below_set ?_ GE135.out) | exact HB.out))) : w.heap.size ≤ gb136)); have n5_ := Aside0.mk ((by rw [hg]; exact Nat.ne_of_lt (blk_lt (g := gb135) (o := .cells #[.string a0_0, .int .i64 a0_1, .bool false] 54 (0, 0)) (by (with_reducible repeat (first | refine blk_drewN ?_ _ | refine blk_drew ?_ | refine blk_alloc ?_ _)); exact BK135.out)) : gb135 ≠ gb136)); have n6_ := Aside0.mk ((by rw [hg]; exact Nat.ne_of_gt (blk_lt (g := gb135) (o := .cells #[.string a0_0, .int .i64 a0_1, .bool false] 54 (0, 0)) (by (with_reducible repeat (first | refine blk_drewN ?_ _ | refine blk_drew ?_ | refine blk_alloc ?_ _)); exact BK135.out)) : gb136 ≠ gb135)); clear BK135; clear HB; have BK135 := n0_; have HB := n1_; have BK136 := n2_; have GW136 := n3_; have GE136 := n4_; have NB135_136 := n5_; have NB136_135 := n6_; clear n0_ n1_ n2_ n3_ n4_ n5_ n6_; clear hb hbox hg; have hnb11 := NB135_136.out; have hnc11 := NB136_135.out; have hcz12_0 : w10.cell? ⟨gb135, 0, none⟩ = some (.string a0_0) := (blk_cell BK135.out 0).trans rfl; have hcz12_1 : w10.cell? ⟨gb135, 1, none⟩ = some (.int .i64 a0_1) := (blk_cell BK135.out 1).trans rfl; have hcz12_2 : w10.cell? ⟨gb135, 2, none⟩ = some (.bool false) := (blk_cell BK135.out 2).trans rfl; have hfz12_0 := blk_frozen BK135.out 0; have hfz12_1 := blk_frozen BK135.out 1; have hfz12_2 := blk_frozen BK135.out 2))
  repeat (go_quiet (first | ((with_reducible refine gate_dst (N := 2) rfl ?_); refine box_event ?hg (N := 2) ?hd (cs := #[.string a0_0, .int .i64 a0_1, .bool false]) (t := 54) ?hr ?_; (case hd => rfl); (case hg => rfl); (case hr => first | (go_simp; done) | (go_simp; rfl)); intro gb135 hg w9 hbox hb; have n0_ := Aside0.mk (below_step (by repeat (first | (with_reducible first | exact HB.out | apply below_alloc | apply pw_below_drewN | apply below_drew1) | exact HB.out)) hb); have n1_ := Aside0.mk (hbox); have n2_ := Aside0.mk ((by rw [hg]; exact (below_size (by repeat (first | (with_reducible first | exact HB.out | apply below_alloc | apply pw_below_drewN | apply below_drew1) | exact HB.out))) : w.heap.size ≤ gb135)); have n3_ := Aside0.mk ((by rw [hg]; exact (below_size (by repeat (first | (with_reducible first | exact HB.out | apply below_alloc | apply pw_below_drewN | apply below_drew1) | exact HB.out))) : w.heap.size ≤ gb135)); clear HB; have HB := n0_; have BK135 := n1_; have GW135 := n2_; have GE135 := n3_; clear n0_ n1_ n2_ n3_; clear hb hbox hg) | ((with_reducible refine gate_dst (N := 4) rfl ?_); refine box_event ?hg (N := 4) ?hd (cs := #[.string (⟨#[]⟩ : ByteArray), .int .i64 0, .bool false]) (t := 54) ?hr ?_; (case hd => rfl); (case hg => rfl); (case hr => first | (go_simp; done) | (go_simp; rfl)); intro gb136 hg w10 hbox hb; have n0_ := Aside0.mk (blk_below (g := gb135) (o := .cells #[.string a0_0, .int .i64 a0_1, .bool false] 54 (0, 0)) (by (with_reducible repeat (first | refine blk_drewN ?_ _ | refine blk_drew ?_ | refine blk_alloc ?_ _)); exact BK135.out) hb); have n1_ := Aside0.mk (below_step (by repeat (first | (with_reducible first | exact HB.out | apply below_alloc | apply pw_below_drewN | apply below_drew1 | refine below_set ?_ GE135.out) | exact HB.out)) hb); have n2_ := Aside0.mk (hbox); have n3_ := Aside0.mk ((by rw [hg]; exact (below_size (by repeat (first | (with_reducible first | exact HB.out | apply below_alloc | apply pw_below_drewN | apply below_drew1 | refine below_set ?_ GE135.out) | exact HB.out))) : w.heap.size ≤ gb136)); have n4_ := Aside0.mk ((by rw [hg]; exact (below_size (by repeat (first | (with_reducible first | exact HB.out | apply below_alloc | apply pw_below_drewN | apply below_drew1 | refine below_set ?_ GE135.out) | exact HB.out))) : w.heap.size ≤ gb136)); have n5_ := Aside0.mk ((by rw [hg]; exact Nat.ne_of_lt (blk_lt (g := gb135) (o := .cells #[.string a0_0, .int .i64 a0_1, .bool false] 54 (0, 0)) (by (with_reducible repeat (first | refine blk_drewN ?_ _ | refine blk_drew ?_ | refine blk_alloc ?_ _)); exact BK135.out)) : gb135 ≠ gb136)); have n6_ := Aside0.mk ((by rw [hg]; exact Nat.ne_of_gt (blk_lt (g := gb135) (o := .cells #[.string a0_0, .int .i64 a0_1, .bool false] 54 (0, 0)) (by (with_reducible repeat (first | refine blk_drewN ?_ _ | refine blk_drew ?_ | refine blk_alloc ?_ _)); exact BK135.out)) : gb136 ≠ gb135)); clear BK135; clear HB; have BK135 := n0_; have HB := n1_; have BK136 := n2_; have GW136 := n3_; have GE136 := n4_; have NB135_136 := n5_; have NB136_135 := n6_; clear n0_ n1_ n2_ n3_ n4_ n5_ n6_; clear hb hbox hg; have hnb11 := NB135_136.out; have hnc11 := NB136_135.out; have hcz12_0 : w10.cell? ⟨gb135, 0, none⟩ = some (.string a0_0) := (blk_cell BK135.out 0).trans rfl; have hcz12_1 : w10.cell? ⟨gb135, 1, none⟩ = some (.int .i64 a0_1) := (blk_cell BK135.out 1).trans rfl; have hcz12_2 : w10.cell? ⟨gb135, 2, none⟩ = some (.bool false) := (blk_cell BK135.out 2).trans rfl; have hfz12_0 := blk_frozen BK135.out 0; have hfz12_1 := blk_frozen BK135.out 1; have hfz12_2 := blk_frozen BK135.out 2)); try go_wp2_with (first | ((with_reducible refine gate_dst (N := 2) rfl ?_); refine box_event ?hg (N := 2) ?hd (cs := #[.string a0_0, .int .i64 a0_1, .bool false]) (t := 54) ?hr ?_; (case hd => rfl); (case hg => rfl); (case hr => first | (go_simp; done) | (go_simp; rfl)); intro gb135 hg w9 hbox hb; have n0_ := Aside0.mk (below_step (by repeat (first | (with_reducible first | exact HB.out | apply below_alloc | apply pw_below_drewN | apply below_drew1) | exact HB.out)) hb); have n1_ := Aside0.mk (hbox); have n2_ := Aside0.mk ((by rw [hg]; exact (below_size (by repeat (first | (with_reducible first | exact HB.out | apply below_alloc | apply pw_below_drewN | apply below_drew1) | exact HB.out))) : w.heap.size ≤ gb135)); have n3_ := Aside0.mk ((by rw [hg]; exact (below_size (by repeat (first | (with_reducible first | exact HB.out | apply below_alloc | apply pw_below_drewN | apply below_drew1) | exact HB.out))) : w.heap.size ≤ gb135)); clear HB; have HB := n0_; have BK135 := n1_; have GW135 := n2_; have GE135 := n3_; clear n0_ n1_ n2_ n3_; clear hb hbox hg) | ((with_reducible refine gate_dst (N := 4) rfl ?_); refine box_event ?hg (N := 4) ?hd (cs := #[.string (⟨#[]⟩ : ByteArray), .int .i64 0, .bool false]) (t := 54) ?hr ?_; (case hd => rfl); (case hg => rfl); (case hr => first | (go_simp; done) | (go_simp; rfl)); intro gb136 hg w10 hbox hb; have n0_ := Aside0.mk (blk_below (g := gb135) (o := .cells #[.string a0_0, .int .i64 a0_1, .bool false] 54 (0, 0)) (by (with_reducible repeat (first | refine blk_drewN ?_ _ | refine blk_drew ?_ | refine blk_alloc ?_ _)); exact BK135.out) hb); have n1_ := Aside0.mk (below_step (by repeat (first | (with_reducible first | exact HB.out | apply below_alloc | apply pw_below_drewN | apply below_drew1 | refine below_set ?_ GE135.out) | exact HB.out)) hb); have n2_ := Aside0.mk (hbox); have n3_ := Aside0.mk ((by rw [hg]; exact (below_size (by repeat (first | (with_reducible first | exact HB.out | apply below_alloc | apply pw_below_drewN | apply below_drew1 | refine below_set ?_ GE135.out) | exact HB.out))) : w.heap.size ≤ gb136)); have n4_ := Aside0.mk ((by rw [hg]; exact (below_size (by repeat (first | (with_reducible first | exact HB.out | apply below_alloc | apply pw_below_drewN | apply below_drew1 | refine below_set ?_ GE135.out) | exact HB.out))) : w.heap.size ≤ gb136)); have n5_ := Aside0.mk ((by rw [hg]; exact Nat.ne_of_lt (blk_lt (g := gb135) (o := .cells #[.string a0_0, .int .i64 a0_1, .bool false] 54 (0, 0)) (by (with_reducible repeat (first | refine blk_drewN ?_ _ | refine blk_drew ?_ | refine blk_alloc ?_ _)); exact BK135.out)) : gb135 ≠ gb136)); have n6_ := Aside0.mk ((by rw [hg]; exact Nat.ne_of_gt (blk_lt (g := gb135) (o := .cells #[.string a0_0, .int .i64 a0_1, .bool false] 54 (0, 0)) (by (with_reducible repeat (first | refine blk_drewN ?_ _ | refine blk_drew ?_ | refine blk_alloc ?_ _)); exact BK135.out)) : gb136 ≠ gb135)); clear BK135; clear HB; have BK135 := n0_; have HB := n1_; have BK136 := n2_; have GW136 := n3_; have GE136 := n4_; have NB135_136 := n5_; have NB136_135 := n6_; clear n0_ n1_ n2_ n3_ n4_ n5_ n6_; clear hb hbox hg; have hnb11 := NB135_136.out; have hnc11 := NB136_135.out; have hcz12_0 : w10.cell? ⟨gb135, 0, none⟩ = some (.string a0_0) := (blk_cell BK135.out 0).trans rfl; have hcz12_1 : w10.cell? ⟨gb135, 1, none⟩ = some (.int .i64 a0_1) := (blk_cell BK135.out 1).trans rfl; have hcz12_2 : w10.cell? ⟨gb135, 2, none⟩ = some (.bool false) := (blk_cell BK135.out 2).trans rfl; have hfz12_0 := blk_frozen BK135.out 0; have hfz12_1 := blk_frozen BK135.out 1; have hfz12_2 := blk_frozen BK135.out 2)))
  go_loopg [6, 7] k (fun kq v6 v7 w' => ∃ (x6_1 : Int) (x7_1 : Int) (x137000_1 : ByteArray) (x137001_1 : Int) (x137002_1 : Bool), v6 = .int .i64 x6_1 ∧ v7 = .int .i64 x7_1 ∧ Aside0 (computusref25_Word.l0 kq l1 x6_1 x7_1 a0_0 a0_1 false = some (r1, r2, r3, r4)) ∧ Aside0 (kq ≤ k) ∧ Aside0 (w'.heap[gb135]? = some (.cells #[.string a0_0, .int .i64 a0_1, .bool false] 54 (0, 0))) ∧ Aside0 (w'.heap[gb136]? = some (.cells #[.string x137000_1, .int .i64 x137001_1, .bool x137002_1] 54 (0, 0))) ∧ Aside0 (Below w.heap.size w w'))
  case atStart => exact ⟨(0), (0), ((⟨#[]⟩ : ByteArray)), (0), (false), (by first | rfl | (simp; done) | (simp [*]; done)), (by first | rfl | (simp; done) | (simp [*]; done)), H', ⟨Nat.le_refl _⟩, ⟨by (with_reducible repeat (first | refine blk_drewN ?_ _ | refine blk_drew ?_ | refine blk_alloc ?_ _)); exact BK135.out⟩, ⟨by (with_reducible repeat (first | refine blk_drewN ?_ _ | refine blk_drew ?_ | refine blk_alloc ?_ _)); exact BK136.out⟩, ⟨by repeat (first | (with_reducible first | exact HB.out | apply below_alloc | apply pw_below_drewN | apply below_drew1 | refine below_set ?_ GE135.out | refine below_set ?_ GE136.out) | exact HB.out)⟩⟩
  case round =>
   clear H'
   try clear c1
   try clear c2
   try clear p2
   try clear c3
   try clear c6
   try clear c11
   try clear hcz12_0
   try clear hcz12_1
   try clear hcz12_2
   try clear hcz7_0
   try clear hcz7_1
   try clear hcz7_2
   try clear hcz8_0
   try clear hcz8_1
   try clear hcz8_2
   try clear hfz12_0
   try clear hfz12_1
   try clear hfz12_2
   try clear hfz7_0
   try clear hfz7_1
   try clear hfz7_2
   try clear hfz8_0
   try clear hfz8_1
   try clear hfz8_2
   obtain ⟨x6_1, x7_1, x137000_1, x137001_1, x137002_1, rfl, rfl, HA, HK1, BK135, BK136, HB⟩ := hrel
   cases gk with
   | zero => exact absurd HA.out (by simp [computusref25_Word.l0])
   | succ k1 =>
    have H := HA.out
    clear HA
    simp only [computusref25_Word.l0] at H
    by_cases c13 : x7_1 < (l1.length : Int)
    ·rw [if_pos c13] at H
     have c13b0 : decide (x7_1 < (l1.length : Int)) = true := decide_eq_true c13
     clear c13
     by_cases c14 : 0 ≤ x7_1
     ·rw [if_pos c14] at H
      have c14b0 : decide (0 ≤ x7_1) = true := decide_eq_true c14
      clear c14
      replace H := Option.bind_eq_some_iff.mp H
      obtain ⟨t141, A150, H⟩ := H
      replace H : (if t141 = ((rdOf ByteArray.empty l1 x7_1).size : Int) then (some (a0_0, wrap64 (a0_1 + t141), false, x7_1)) else (if t141 > x6_1 then (computusref25_Word.l0 k1 l1 t141 (wrap64 (x7_1 + 1)) a0_0 a0_1 false) else (computusref25_Word.l0 k1 l1 x6_1 (wrap64 (x7_1 + 1)) a0_0 a0_1 false))) = some (r1, r2, r3, r4) := H
      have A15 := Aside0.mk A150
      clear A150
      by_cases c16 : t141 = ((rdOf ByteArray.empty l1 x7_1).size : Int)
      ·rw [if_pos c16] at H
       have c16b0 : (t141 == ((rdOf ByteArray.empty l1 x7_1).size : Int)) = true := beq_iff_eq.mpr c16
       have c16b1 : (t141 != ((rdOf ByteArray.empty l1 x7_1).size : Int)) = false := bne_eq_false_iff_eq.mpr c16
       clear c16
       simp only [Option.some.injEq, Prod.mk.injEq] at H
       obtain ⟨rfl, rfl, rfl, rfl⟩ := H
       have hnb17 := NB135_136.out
       have hnc17 := NB136_135.out
       have hcz18_0 : wr.cell? ⟨gb135, 0, none⟩ = some (.string a0_0) := (blk_cell BK135.out 0).trans rfl
       have hcz18_1 : wr.cell? ⟨gb135, 1, none⟩ = some (.int .i64 a0_1) := (blk_cell BK135.out 1).trans rfl
       have hcz18_2 : wr.cell? ⟨gb135, 2, none⟩ = some (.bool false) := (blk_cell BK135.out 2).trans rfl
       have hfz18_0 := blk_frozen BK135.out 0
       have hfz18_1 := blk_frozen BK135.out 1
       have hfz18_2 := blk_frozen BK135.out 2
       have p140 : 0 ≤ (x7_1 : Int) := of_decide_eq_true (by first | (with_reducible assumption) | assumption)
       have q140 : x7_1 < (l1.length : Int) := of_decide_eq_true (by first | (with_reducible assumption) | assumption)
       obtain ⟨ad140, e140, hx140_0⟩ := Kd.at_string HR1.out x7_1 p140 q140
       cases e140
       replace hx140_0 := (HB.out.cell (World.block_lt_of_cell? w _ hx140_0)).trans hx140_0
       replace p140 := eq_true p140
       replace q140 := eq_true q140
       go_wp2_with (first | (go_at_call 61; (with_reducible refine (computusref25_prefix.calls k1 a0_0 a0_1 (rdOf ByteArray.empty l1 x7_1) t141 _ A15.out).mono ?_); rintro e w' ⟨rfl, ⟨nd, rfl⟩⟩; (try first | exact ⟨rfl, _, World.drewN_drewN _ _ _⟩ | exact ⟨rfl, _, Eq.trans (World.drewN_drewN _ _ _) (congrArg (World.drewN _) (Nat.add_assoc _ _ _))⟩); have p142 : 0 ≤ (x7_1 : Int) := of_decide_eq_true (by first | (with_reducible assumption) | assumption); have q142 : x7_1 < (l1.length : Int) := of_decide_eq_true (by first | (with_reducible assumption) | assumption); obtain ⟨ad142, e142, hx142_0⟩ := Kd.at_string HR1.out x7_1 p142 q142; obtain rfl : ad140 = ad142 := (by injection e142); replace hx142_0 := (HB.out.cell (World.block_lt_of_cell? w _ hx142_0)).trans hx142_0; replace p142 := eq_true p142; replace q142 := eq_true q142; have hcz19_0 : wr.cell? ⟨gb136, 0, none⟩ = some (.string x137000_1) := (blk_cell BK136.out 0).trans rfl; have hcz19_1 : wr.cell? ⟨gb136, 1, none⟩ = some (.int .i64 x137001_1) := (blk_cell BK136.out 1).trans rfl; have hcz19_2 : wr.cell? ⟨gb136, 2, none⟩ = some (.bool x137002_1) := (blk_cell BK136.out 2).trans rfl; have hfz19_0 := blk_frozen BK136.out 0; have hfz19_1 := blk_frozen BK136.out 1; have hfz19_2 := blk_frozen BK136.out 2))
       repeat (go_quiet (first | (go_at_call 61; (with_reducible refine (computusref25_prefix.calls k1 a0_0 a0_1 (rdOf ByteArray.empty l1 x7_1) t141 _ A15.out).mono ?_); rintro e w' ⟨rfl, ⟨nd, rfl⟩⟩; (try first | exact ⟨rfl, _, World.drewN_drewN _ _ _⟩ | exact ⟨rfl, _, Eq.trans (World.drewN_drewN _ _ _) (congrArg (World.drewN _) (Nat.add_assoc _ _ _))⟩); have p142 : 0 ≤ (x7_1 : Int) := of_decide_eq_true (by first | (with_reducible assumption) | assumption); have q142 : x7_1 < (l1.length : Int) := of_decide_eq_true (by first | (with_reducible assumption) | assumption); obtain ⟨ad142, e142, hx142_0⟩ := Kd.at_string HR1.out x7_1 p142 q142; obtain rfl : ad140 = ad142 := (by injection e142); replace hx142_0 := (HB.out.cell (World.block_lt_of_cell? w _ hx142_0)).trans hx142_0; replace p142 := eq_true p142; replace q142 := eq_true q142; have hcz19_0 : wr.cell? ⟨gb136, 0, none⟩ = some (.string x137000_1) := (blk_cell BK136.out 0).trans rfl; have hcz19_1 : wr.cell? ⟨gb136, 1, none⟩ = some (.int .i64 x137001_1) := (blk_cell BK136.out 1).trans rfl; have hcz19_2 : wr.cell? ⟨gb136, 2, none⟩ = some (.bool x137002_1) := (blk_cell BK136.out 2).trans rfl; have hfz19_0 := blk_frozen BK136.out 0; have hfz19_1 := blk_frozen BK136.out 1; have hfz19_2 := blk_frozen BK136.out 2)); try go_wp2_with (first | (go_at_call 61; (with_reducible refine (computusref25_prefix.calls k1 a0_0 a0_1 (rdOf ByteArray.empty l1 x7_1) t141 _ A15.out).mono ?_); rintro e w' ⟨rfl, ⟨nd, rfl⟩⟩; (try first | exact ⟨rfl, _, World.drewN_drewN _ _ _⟩ | exact ⟨rfl, _, Eq.trans (World.drewN_drewN _ _ _) (congrArg (World.drewN _) (Nat.add_assoc _ _ _))⟩); have p142 : 0 ≤ (x7_1 : Int) := of_decide_eq_true (by first | (with_reducible assumption) | assumption); have q142 : x7_1 < (l1.length : Int) := of_decide_eq_true (by first | (with_reducible assumption) | assumption); obtain ⟨ad142, e142, hx142_0⟩ := Kd.at_string HR1.out x7_1 p142 q142; obtain rfl : ad140 = ad142 := (by injection e142); replace hx142_0 := (HB.out.cell (World.block_lt_of_cell? w _ hx142_0)).trans hx142_0; replace p142 := eq_true p142; replace q142 := eq_true q142; have hcz19_0 : wr.cell? ⟨gb136, 0, none⟩ = some (.string x137000_1) := (blk_cell BK136.out 0).trans rfl; have hcz19_1 : wr.cell? ⟨gb136, 1, none⟩ = some (.int .i64 x137001_1) := (blk_cell BK136.out 1).trans rfl; have hcz19_2 : wr.cell? ⟨gb136, 2, none⟩ = some (.bool x137002_1) := (blk_cell BK136.out 2).trans rfl; have hfz19_0 := blk_frozen BK136.out 0; have hfz19_1 := blk_frozen BK136.out 1; have hfz19_2 := blk_frozen BK136.out 2)))
       refine bodyPost_ret (results_ct rfl _ _ gb136 54 #[.string a0_0, .int .i64 (wrap64 (a0_1 + t141)), .bool false] (0, 0) _ rfl (by (with_reducible repeat (first | refine blk_drewN ?_ _ | refine blk_drew ?_ | refine blk_alloc ?_ _)); refine blk_put (cs := #[.string a0_0, .int .i64 (wrap64 (a0_1 + t141)), .bool x137002_1]) ?_ 2 _ rfl; (with_reducible repeat (first | refine blk_drewN ?_ _ | refine blk_drew ?_ | refine blk_alloc ?_ _)); refine blk_put (cs := #[.string a0_0, .int .i64 x137001_1, .bool x137002_1]) ?_ 1 _ rfl; (with_reducible repeat (first | refine blk_drewN ?_ _ | refine blk_drew ?_ | refine blk_alloc ?_ _)); refine blk_put (cs := #[.string x137000_1, .int .i64 x137001_1, .bool x137002_1]) ?_ 0 _ rfl; (with_reducible repeat (first | refine blk_drewN ?_ _ | refine blk_drew ?_ | refine blk_alloc ?_ _)); exact BK136.out) Tryd.underlying54 rfl (by kernel_rfl)) rfl ?_
       exact ⟨by first | rfl | (simp [errW_none, errW_some] <;> rfl) | (simp [*, errW_none, errW_some] <;> rfl), by repeat (first | (with_reducible first | exact HB.out | apply below_alloc | apply pw_below_drewN | apply below_drew1 | refine below_set ?_ GE135.out | refine below_set ?_ GE136.out) | exact HB.out)⟩
      ·rw [if_neg c16] at H
       have c16b0 : (t141 == ((rdOf ByteArray.empty l1 x7_1).size : Int)) = false := beq_eq_false_iff_ne.mpr c16
       have c16b1 : (t141 != ((rdOf ByteArray.empty l1 x7_1).size : Int)) = true := bne_iff_ne.mpr c16
       by_cases c20 : t141 > x6_1
       ·rw [if_pos c20] at H
        have c20b0 : decide (x6_1 < t141) = true := decide_eq_true c20
        clear c20
        have H' := Aside0.mk H
        clear H
        have hnb21 := NB135_136.out
        have hnc21 := NB136_135.out
        have hcz22_0 : wr.cell? ⟨gb135, 0, none⟩ = some (.string a0_0) := (blk_cell BK135.out 0).trans rfl
        have hcz22_1 : wr.cell? ⟨gb135, 1, none⟩ = some (.int .i64 a0_1) := (blk_cell BK135.out 1).trans rfl
        have hcz22_2 : wr.cell? ⟨gb135, 2, none⟩ = some (.bool false) := (blk_cell BK135.out 2).trans rfl
        have hfz22_0 := blk_frozen BK135.out 0
        have hfz22_1 := blk_frozen BK135.out 1
        have hfz22_2 := blk_frozen BK135.out 2
        have p140 : 0 ≤ (x7_1 : Int) := of_decide_eq_true (by first | (with_reducible assumption) | assumption)
        have q140 : x7_1 < (l1.length : Int) := of_decide_eq_true (by first | (with_reducible assumption) | assumption)
        obtain ⟨ad140, e140, hx140_0⟩ := Kd.at_string HR1.out x7_1 p140 q140
        cases e140
        replace hx140_0 := (HB.out.cell (World.block_lt_of_cell? w _ hx140_0)).trans hx140_0
        replace p140 := eq_true p140
        replace q140 := eq_true q140
        go_wp2_with (first | (go_at_call 61; (with_reducible refine (computusref25_prefix.calls k1 a0_0 a0_1 (rdOf ByteArray.empty l1 x7_1) t141 _ A15.out).mono ?_); rintro e w' ⟨rfl, ⟨nd, rfl⟩⟩; (try first | exact ⟨rfl, _, World.drewN_drewN _ _ _⟩ | exact ⟨rfl, _, Eq.trans (World.drewN_drewN _ _ _) (congrArg (World.drewN _) (Nat.add_assoc _ _ _))⟩); have p142 : 0 ≤ (x7_1 : Int) := of_decide_eq_true (by first | (with_reducible assumption) | assumption); have q142 : x7_1 < (l1.length : Int) := of_decide_eq_true (by first | (with_reducible assumption) | assumption); obtain ⟨ad142, e142, hx142_0⟩ := Kd.at_string HR1.out x7_1 p142 q142; obtain rfl : ad140 = ad142 := (by injection e142); replace hx142_0 := (HB.out.cell (World.block_lt_of_cell? w _ hx142_0)).trans hx142_0; replace p142 := eq_true p142; replace q142 := eq_true q142))
        repeat (go_quiet (first | (go_at_call 61; (with_reducible refine (computusref25_prefix.calls k1 a0_0 a0_1 (rdOf ByteArray.empty l1 x7_1) t141 _ A15.out).mono ?_); rintro e w' ⟨rfl, ⟨nd, rfl⟩⟩; (try first | exact ⟨rfl, _, World.drewN_drewN _ _ _⟩ | exact ⟨rfl, _, Eq.trans (World.drewN_drewN _ _ _) (congrArg (World.drewN _) (Nat.add_assoc _ _ _))⟩); have p142 : 0 ≤ (x7_1 : Int) := of_decide_eq_true (by first | (with_reducible assumption) | assumption); have q142 : x7_1 < (l1.length : Int) := of_decide_eq_true (by first | (with_reducible assumption) | assumption); obtain ⟨ad142, e142, hx142_0⟩ := Kd.at_string HR1.out x7_1 p142 q142; obtain rfl : ad140 = ad142 := (by injection e142); replace hx142_0 := (HB.out.cell (World.block_lt_of_cell? w _ hx142_0)).trans hx142_0; replace p142 := eq_true p142; replace q142 := eq_true q142)); try go_wp2_with (first | (go_at_call 61; (with_reducible refine (computusref25_prefix.calls k1 a0_0 a0_1 (rdOf ByteArray.empty l1 x7_1) t141 _ A15.out).mono ?_); rintro e w' ⟨rfl, ⟨nd, rfl⟩⟩; (try first | exact ⟨rfl, _, World.drewN_drewN _ _ _⟩ | exact ⟨rfl, _, Eq.trans (World.drewN_drewN _ _ _) (congrArg (World.drewN _) (Nat.add_assoc _ _ _))⟩); have p142 : 0 ≤ (x7_1 : Int) := of_decide_eq_true (by first | (with_reducible assumption) | assumption); have q142 : x7_1 < (l1.length : Int) := of_decide_eq_true (by first | (with_reducible assumption) | assumption); obtain ⟨ad142, e142, hx142_0⟩ := Kd.at_string HR1.out x7_1 p142 q142; obtain rfl : ad140 = ad142 := (by injection e142); replace hx142_0 := (HB.out.cell (World.block_lt_of_cell? w _ hx142_0)).trans hx142_0; replace p142 := eq_true p142; replace q142 := eq_true q142)))
        go_roundg k1
        case measure => have := HK1.out; omega
        case rel => exact ⟨(t141), (wrap64 (x7_1 + 1)), (x137000_1), (x137001_1), (x137002_1), (by first | rfl | (simp; done) | (simp [*]; done)), (by first | rfl | (simp; done) | (simp [*]; done)), H', ⟨by have := HK1.out; omega⟩, ⟨by (with_reducible repeat (first | refine blk_drewN ?_ _ | refine blk_drew ?_ | refine blk_alloc ?_ _)); exact BK135.out⟩, ⟨by (with_reducible repeat (first | refine blk_drewN ?_ _ | refine blk_drew ?_ | refine blk_alloc ?_ _)); exact BK136.out⟩, ⟨by repeat (first | (with_reducible first | exact HB.out | apply below_alloc | apply pw_below_drewN | apply below_drew1 | refine below_set ?_ GE135.out | refine below_set ?_ GE136.out) | exact HB.out)⟩⟩
       ·rw [if_neg c20] at H
        have c20b0 : decide (x6_1 < t141) = false := decide_eq_false c20
        clear c20
        have H' := Aside0.mk H
        clear H
        have hnb23 := NB135_136.out
        have hnc23 := NB136_135.out
        have hcz24_0 : wr.cell? ⟨gb135, 0, none⟩ = some (.string a0_0) := (blk_cell BK135.out 0).trans rfl
        have hcz24_1 : wr.cell? ⟨gb135, 1, none⟩ = some (.int .i64 a0_1) := (blk_cell BK135.out 1).trans rfl
        have hcz24_2 : wr.cell? ⟨gb135, 2, none⟩ = some (.bool false) := (blk_cell BK135.out 2).trans rfl
        have hfz24_0 := blk_frozen BK135.out 0
        have hfz24_1 := blk_frozen BK135.out 1
        have hfz24_2 := blk_frozen BK135.out 2
        have p140 : 0 ≤ (x7_1 : Int) := of_decide_eq_true (by first | (with_reducible assumption) | assumption)
        have q140 : x7_1 < (l1.length : Int) := of_decide_eq_true (by first | (with_reducible assumption) | assumption)
        obtain ⟨ad140, e140, hx140_0⟩ := Kd.at_string HR1.out x7_1 p140 q140
        cases e140
        replace hx140_0 := (HB.out.cell (World.block_lt_of_cell? w _ hx140_0)).trans hx140_0
        replace p140 := eq_true p140
        replace q140 := eq_true q140
        go_wp2_with (first | (go_at_call 61; (with_reducible refine (computusref25_prefix.calls k1 a0_0 a0_1 (rdOf ByteArray.empty l1 x7_1) t141 _ A15.out).mono ?_); rintro e w' ⟨rfl, ⟨nd, rfl⟩⟩; (try first | exact ⟨rfl, _, World.drewN_drewN _ _ _⟩ | exact ⟨rfl, _, Eq.trans (World.drewN_drewN _ _ _) (congrArg (World.drewN _) (Nat.add_assoc _ _ _))⟩); have p142 : 0 ≤ (x7_1 : Int) := of_decide_eq_true (by first | (with_reducible assumption) | assumption); have q142 : x7_1 < (l1.length : Int) := of_decide_eq_true (by first | (with_reducible assumption) | assumption); obtain ⟨ad142, e142, hx142_0⟩ := Kd.at_string HR1.out x7_1 p142 q142; obtain rfl : ad140 = ad142 := (by injection e142); replace hx142_0 := (HB.out.cell (World.block_lt_of_cell? w _ hx142_0)).trans hx142_0; replace p142 := eq_true p142; replace q142 := eq_true q142))
        repeat (go_quiet (first | (go_at_call 61; (with_reducible refine (computusref25_prefix.calls k1 a0_0 a0_1 (rdOf ByteArray.empty l1 x7_1) t141 _ A15.out).mono ?_); rintro e w' ⟨rfl, ⟨nd, rfl⟩⟩; (try first | exact ⟨rfl, _, World.drewN_drewN _ _ _⟩ | exact ⟨rfl, _, Eq.trans (World.drewN_drewN _ _ _) (congrArg (World.drewN _) (Nat.add_assoc _ _ _))⟩); have p142 : 0 ≤ (x7_1 : Int) := of_decide_eq_true (by first | (with_reducible assumption) | assumption); have q142 : x7_1 < (l1.length : Int) := of_decide_eq_true (by first | (with_reducible assumption) | assumption); obtain ⟨ad142, e142, hx142_0⟩ := Kd.at_string HR1.out x7_1 p142 q142; obtain rfl : ad140 = ad142 := (by injection e142); replace hx142_0 := (HB.out.cell (World.block_lt_of_cell? w _ hx142_0)).trans hx142_0; replace p142 := eq_true p142; replace q142 := eq_true q142)); try go_wp2_with (first | (go_at_call 61; (with_reducible refine (computusref25_prefix.calls k1 a0_0 a0_1 (rdOf ByteArray.empty l1 x7_1) t141 _ A15.out).mono ?_); rintro e w' ⟨rfl, ⟨nd, rfl⟩⟩; (try first | exact ⟨rfl, _, World.drewN_drewN _ _ _⟩ | exact ⟨rfl, _, Eq.trans (World.drewN_drewN _ _ _) (congrArg (World.drewN _) (Nat.add_assoc _ _ _))⟩); have p142 : 0 ≤ (x7_1 : Int) := of_decide_eq_true (by first | (with_reducible assumption) | assumption); have q142 : x7_1 < (l1.length : Int) := of_decide_eq_true (by first | (with_reducible assumption) | assumption); obtain ⟨ad142, e142, hx142_0⟩ := Kd.at_string HR1.out x7_1 p142 q142; obtain rfl : ad140 = ad142 := (by injection e142); replace hx142_0 := (HB.out.cell (World.block_lt_of_cell? w _ hx142_0)).trans hx142_0; replace p142 := eq_true p142; replace q142 := eq_true q142)))
        go_roundg k1
        case measure => have := HK1.out; omega
        case rel => exact ⟨(x6_1), (wrap64 (x7_1 + 1)), (x137000_1), (x137001_1), (x137002_1), (by first | rfl | (simp; done) | (simp [*]; done)), (by first | rfl | (simp; done) | (simp [*]; done)), H', ⟨by have := HK1.out; omega⟩, ⟨by (with_reducible repeat (first | refine blk_drewN ?_ _ | refine blk_drew ?_ | refine blk_alloc ?_ _)); exact BK135.out⟩, ⟨by (with_reducible repeat (first | refine blk_drewN ?_ _ | refine blk_drew ?_ | refine blk_alloc ?_ _)); exact BK136.out⟩, ⟨by repeat (first | (with_reducible first | exact HB.out | apply below_alloc | apply pw_below_drewN | apply below_drew1 | refine below_set ?_ GE135.out | refine below_set ?_ GE136.out) | exact HB.out)⟩⟩
     ·rw [if_neg c14] at H
      exact absurd H (by simp)
    ·rw [if_neg c13] at H
     have c13b0 : decide (x7_1 < (l1.length : Int)) = false := decide_eq_false c13
     clear c13
     replace H := Option.bind_eq_some_iff.mp H
     obtain ⟨⟨t137, t138, t139⟩, A250, H⟩ := H
     replace H : (some (t137, t138, t139, (-1))) = some (r1, r2, r3, r4) := H
     have A25 := Aside0.mk A250
     clear A250
     simp only [Option.some.injEq, Prod.mk.injEq] at H
     obtain ⟨rfl, rfl, rfl, rfl⟩ := H
     have hnb26 := NB135_136.out
     have hnc26 := NB136_135.out
     have hcz27_0 : wr.cell? ⟨gb135, 0, none⟩ = some (.string a0_0) := (blk_cell BK135.out 0).trans rfl
     have hcz27_1 : wr.cell? ⟨gb135, 1, none⟩ = some (.int .i64 a0_1) := (blk_cell BK135.out 1).trans rfl
     have hcz27_2 : wr.cell? ⟨gb135, 2, none⟩ = some (.bool false) := (blk_cell BK135.out 2).trans rfl
     have hfz27_0 := blk_frozen BK135.out 0
     have hfz27_1 := blk_frozen BK135.out 1
     have hfz27_2 := blk_frozen BK135.out 2
     go_wp2_with (first | (go_at_call 62; (with_reducible refine (computusref25_fail.calls a0_0 a0_1 false (wrap64 (a0_1 + x6_1)) t137 t138 t139 _ A25.out).mono ?_); rintro e w28 ⟨rfl, hb⟩; have n0_ := Aside0.mk (blk_below (g := gb135) (o := .cells #[.string a0_0, .int .i64 a0_1, .bool false] 54 (0, 0)) (by (with_reducible repeat (first | refine blk_drewN ?_ _ | refine blk_drew ?_ | refine blk_alloc ?_ _)); exact BK135.out) hb); have n1_ := Aside0.mk (blk_below (g := gb136) (o := .cells #[.string x137000_1, .int .i64 x137001_1, .bool x137002_1] 54 (0, 0)) (by (with_reducible repeat (first | refine blk_drewN ?_ _ | refine blk_drew ?_ | refine blk_alloc ?_ _)); exact BK136.out) hb); have n2_ := Aside0.mk (below_step (by repeat (first | (with_reducible first | exact HB.out | apply below_alloc | apply pw_below_drewN | apply below_drew1 | refine below_set ?_ GE135.out | refine below_set ?_ GE136.out) | exact HB.out)) hb); clear BK135; clear BK136; clear HB; have BK135 := n0_; have BK136 := n1_; have HB := n2_; clear n0_ n1_ n2_; (try clear hb); (try clear hb2); (try clear hk); (try clear hi); have hcz29_0 : w28.cell? ⟨gb136, 0, none⟩ = some (.string x137000_1) := (blk_cell BK136.out 0).trans rfl; have hcz29_1 : w28.cell? ⟨gb136, 1, none⟩ = some (.int .i64 x137001_1) := (blk_cell BK136.out 1).trans rfl; have hcz29_2 : w28.cell? ⟨gb136, 2, none⟩ = some (.bool x137002_1) := (blk_cell BK136.out 2).trans rfl; have hfz29_0 := blk_frozen BK136.out 0; have hfz29_1 := blk_frozen BK136.out 1; have hfz29_2 := blk_frozen BK136.out 2))
     repeat (go_quiet (first | (go_at_call 62; (with_reducible refine (computusref25_fail.calls a0_0 a0_1 false (wrap64 (a0_1 + x6_1)) t137 t138 t139 _ A25.out).mono ?_); rintro e w28 ⟨rfl, hb⟩; have n0_ := Aside0.mk (blk_below (g := gb135) (o := .cells #[.string a0_0, .int .i64 a0_1, .bool false] 54 (0, 0)) (by (with_reducible repeat (first | refine blk_drewN ?_ _ | refine blk_drew ?_ | refine blk_alloc ?_ _)); exact BK135.out) hb); have n1_ := Aside0.mk (blk_below (g := gb136) (o := .cells #[.string x137000_1, .int .i64 x137001_1, .bool x137002_1] 54 (0, 0)) (by (with_reducible repeat (first | refine blk_drewN ?_ _ | refine blk_drew ?_ | refine blk_alloc ?_ _)); exact BK136.out) hb); have n2_ := Aside0.mk (below_step (by repeat (first | (with_reducible first | exact HB.out | apply below_alloc | apply pw_below_drewN | apply below_drew1 | refine below_set ?_ GE135.out | refine below_set ?_ GE136.out) | exact HB.out)) hb); clear BK135; clear BK136; clear HB; have BK135 := n0_; have BK136 := n1_; have HB := n2_; clear n0_ n1_ n2_; (try clear hb); (try clear hb2); (try clear hk); (try clear hi); have hcz29_0 : w28.cell? ⟨gb136, 0, none⟩ = some (.string x137000_1) := (blk_cell BK136.out 0).trans rfl; have hcz29_1 : w28.cell? ⟨gb136, 1, none⟩ = some (.int .i64 x137001_1) := (blk_cell BK136.out 1).trans rfl; have hcz29_2 : w28.cell? ⟨gb136, 2, none⟩ = some (.bool x137002_1) := (blk_cell BK136.out 2).trans rfl; have hfz29_0 := blk_frozen BK136.out 0; have hfz29_1 := blk_frozen BK136.out 1; have hfz29_2 := blk_frozen BK136.out 2)); try go_wp2_with (first | (go_at_call 62; (with_reducible refine (computusref25_fail.calls a0_0 a0_1 false (wrap64 (a0_1 + x6_1)) t137 t138 t139 _ A25.out).mono ?_); rintro e w28 ⟨rfl, hb⟩; have n0_ := Aside0.mk (blk_below (g := gb135) (o := .cells #[.string a0_0, .int .i64 a0_1, .bool false] 54 (0, 0)) (by (with_reducible repeat (first | refine blk_drewN ?_ _ | refine blk_drew ?_ | refine blk_alloc ?_ _)); exact BK135.out) hb); have n1_ := Aside0.mk (blk_below (g := gb136) (o := .cells #[.string x137000_1, .int .i64 x137001_1, .bool x137002_1] 54 (0, 0)) (by (with_reducible repeat (first | refine blk_drewN ?_ _ | refine blk_drew ?_ | refine blk_alloc ?_ _)); exact BK136.out) hb); have n2_ := Aside0.mk (below_step (by repeat (first | (with_reducible first | exact HB.out | apply below_alloc | apply pw_below_drewN | apply below_drew1 | refine below_set ?_ GE135.out | refine below_set ?_ GE136.out) | exact HB.out)) hb); clear BK135; clear BK136; clear HB; have BK135 := n0_; have BK136 := n1_; have HB := n2_; clear n0_ n1_ n2_; (try clear hb); (try clear hb2); (try clear hk); (try clear hi); have hcz29_0 : w28.cell? ⟨gb136, 0, none⟩ = some (.string x137000_1) := (blk_cell BK136.out 0).trans rfl; have hcz29_1 : w28.cell? ⟨gb136, 1, none⟩ = some (.int .i64 x137001_1) := (blk_cell BK136.out 1).trans rfl; have hcz29_2 : w28.cell? ⟨gb136, 2, none⟩ = some (.bool x137002_1) := (blk_cell BK136.out 2).trans rfl; have hfz29_0 := blk_frozen BK136.out 0; have hfz29_1 := blk_frozen BK136.out 1; have hfz29_2 := blk_frozen BK136.out 2)))
     refine bodyPost_ret (results_ct rfl _ _ gb136 54 #[.string t137, .int .i64 t138, .bool t139] (0, 0) _ rfl (by (with_reducible repeat (first | refine blk_drewN ?_ _ | refine blk_drew ?_ | refine blk_alloc ?_ _)); refine blk_put (cs := #[.string t137, .int .i64 t138, .bool x137002_1]) ?_ 2 _ rfl; (with_reducible repeat (first | refine blk_drewN ?_ _ | refine blk_drew ?_ | refine blk_alloc ?_ _)); refine blk_put (cs := #[.string t137, .int .i64 x137001_1, .bool x137002_1]) ?_ 1 _ rfl; (with_reducible repeat (first | refine blk_drewN ?_ _ | refine blk_drew ?_ | refine blk_alloc ?_ _)); refine blk_put (cs := #[.string x137000_1, .int .i64 x137001_1, .bool x137002_1]) ?_ 0 _ rfl; (with_reducible repeat (first | refine blk_drewN ?_ _ | refine blk_drew ?_ | refine blk_alloc ?_ _)); exact BK136.out) Tryd.underlying54 rfl (by kernel_rfl)) rfl ?_
     exact ⟨by first | rfl | (simp [errW_none, errW_some] <;> rfl) | (simp [*, errW_none, errW_some] <;> rfl), by repeat (first | (with_reducible first | exact HB.out | apply below_alloc | apply pw_below_drewN | apply below_drew1 | refine below_set ?_ GE135.out | refine below_set ?_ GE136.out) | exact HB.out)⟩
def computusref25_End.f (a0_0 : ByteArray) (a0_1 : Int) (a0_2 : Bool) : Option (ByteArray × Int × Bool) := if a0_2 = true then (some (a0_0, a0_1, a0_2)) else (if a0_1 < (a0_0.size : Int) then ((computusref25_fail.f a0_0 a0_1 a0_2 a0_1).bind fun bt159 => (some (bt159.1, bt159.2.1, bt159.2.2))) else (some (a0_0, a0_1, a0_2)))
theorem computusref25_End.calls (a0_0 : ByteArray) (a0_1 : Int) (a0_2 : Bool) (r1 : ByteArray) (r2 : Int) (r3 : Bool) (w : World) (h : computusref25_End.f a0_0 a0_1 a0_2 = some (r1, r2, r3)) :
  Calls Tryd.prog 28 #[.agg #[.string a0_0, .int .i64 a0_1, .bool a0_2]] w fun e w' => e = .returned (.agg #[.string r1, .int .i64 r2, .bool r3]) ∧ Below w.heap.size w w' := by
 have hu54 := Tryd.underlying54
 have HB := am_ (Below.refl w.heap.size w)
 have H := h
 clear h
 unfold computusref25_End.f at H
 by_cases c2 : a0_2 = true
 ·subst c2
  replace H := it_ H
  simp only [Option.some.injEq, Prod.mk.injEq] at H
  obtain ⟨rfl, rfl, rfl⟩ := H
  go_enter Tryd.func28, Tryd.ntmps28
  go_wp2_with (first | ((with_reducible refine gate_dst (N := 1) rfl ?_); (try (refine gate_guard (by rfl) ?_; dsimp only)); refine bx_ (w := w) (N := 1) (cs := #[.string a0_0, .int .i64 a0_1, .bool true]) (t := 54) ?_; intro gb157 w3 BK157 n0_ GW157 GE157; clear HB; have HB := n0_; clear n0_) | ((with_reducible refine gate_dst (N := 2) rfl ?_); (try (refine gate_guard (by rfl) ?_; dsimp only)); refine be_ (N := 2) (cs := #[.string (⟨#[]⟩ : ByteArray), .int .i64 0, .bool false]) (t := 54) ?_; intro gb158 hg w4 hbox hb; have BK158 := am_ (hbox); have GW158 := gw_ (w := w) hg; have GE158 := gw_ (w := w) hg; replace HB := bt_ hb; have NB157_158 := ne_ hg BK157; have NB158_157 := nf_ hg BK157; replace BK157 := bw_ BK157 hb; clear hb hbox hg; have hnb5 := NB157_158.out; have hnc5 := NB158_157.out; obtain ⟨hcz6_0, hcz6_1, hcz6_2⟩ := cz3_ BK157.out; obtain ⟨hfz6_0, hfz6_1, hfz6_2⟩ := fz3_ BK157.out; obtain ⟨hcz7_0, hcz7_1, hcz7_2⟩ := cz3_ BK158.out; obtain ⟨hfz7_0, hfz7_1, hfz7_2⟩ := fz3_ BK158.out))
  refine bodyPost_ret (results_cell_row rfl _ _ gb158 54 #[.string a0_0, .int .i64 a0_1, .bool true] (0, 0) _ rfl (by refine bp_ ?_; refine blk_put (cs := #[.string a0_0, .int .i64 a0_1, .bool false]) ?_ 2 _ rfl; refine bp_ ?_; refine blk_put (cs := #[.string a0_0, .int .i64 0, .bool false]) ?_ 1 _ rfl; refine bp_ ?_; refine blk_put (cs := #[.string (⟨#[]⟩ : ByteArray), .int .i64 0, .bool false]) ?_ 0 _ rfl; exact bk_ BK158.out) Tryd.underlying54 rfl (by kernel_rfl)) rfl ?_
  exact rt_
 replace c2 := Bool.eq_false_iff.mpr c2
 subst c2
 replace H := if_ H
 by_cases c8 : a0_1 < (a0_0.size : Int)
 rotate_left
 ·rw [if_neg c8] at H
  have c8b0 : decide (a0_1 < (a0_0.size : Int)) = false := decide_eq_false c8
  clear c8
  simp only [Option.some.injEq, Prod.mk.injEq] at H
  obtain ⟨rfl, rfl, rfl⟩ := H
  go_enter Tryd.func28, Tryd.ntmps28
  go_wp2_with (first | ((with_reducible refine gate_dst (N := 1) rfl ?_); (try (refine gate_guard (by rfl) ?_; dsimp only)); refine bx_ (w := w) (N := 1) (cs := #[.string a0_0, .int .i64 a0_1, .bool false]) (t := 54) ?_; intro gb157 w16 BK157 n0_ GW157 GE157; clear HB; have HB := n0_; clear n0_) | ((with_reducible refine gate_dst (N := 2) rfl ?_); (try (refine gate_guard (by rfl) ?_; dsimp only)); refine be_ (N := 2) (cs := #[.string (⟨#[]⟩ : ByteArray), .int .i64 0, .bool false]) (t := 54) ?_; intro gb158 hg w17 hbox hb; have BK158 := am_ (hbox); have GW158 := gw_ (w := w) hg; have GE158 := gw_ (w := w) hg; replace HB := bt_ hb; have NB157_158 := ne_ hg BK157; have NB158_157 := nf_ hg BK157; replace BK157 := bw_ BK157 hb; clear hb hbox hg; have hnb18 := NB157_158.out; have hnc18 := NB158_157.out; obtain ⟨hcz19_0, hcz19_1, hcz19_2⟩ := cz3_ BK157.out; obtain ⟨hfz19_0, hfz19_1, hfz19_2⟩ := fz3_ BK157.out; obtain ⟨hcz20_0, hcz20_1, hcz20_2⟩ := cz3_ BK158.out; obtain ⟨hfz20_0, hfz20_1, hfz20_2⟩ := fz3_ BK158.out))
  refine bodyPost_ret (results_cell_row rfl _ _ gb158 54 #[.string a0_0, .int .i64 a0_1, .bool false] (0, 0) _ rfl (by refine bp_ ?_; refine blk_put (cs := #[.string a0_0, .int .i64 a0_1, .bool false]) ?_ 2 _ rfl; refine bp_ ?_; refine blk_put (cs := #[.string a0_0, .int .i64 0, .bool false]) ?_ 1 _ rfl; refine bp_ ?_; refine blk_put (cs := #[.string (⟨#[]⟩ : ByteArray), .int .i64 0, .bool false]) ?_ 0 _ rfl; exact bk_ BK158.out) Tryd.underlying54 rfl (by kernel_rfl)) rfl ?_
  exact rt_
 rw [if_pos c8] at H
 have c8b0 : decide (a0_1 < (a0_0.size : Int)) = true := decide_eq_true c8
 clear c8
 obtain ⟨⟨t159, t160, t161⟩, A9, H⟩ := bs_ H
 dsimp only at H
 simp only [Option.some.injEq, Prod.mk.injEq] at H
 obtain ⟨rfl, rfl, rfl⟩ := H
 go_enter Tryd.func28, Tryd.ntmps28
 go_wp2_with (first | ((with_reducible refine gate_dst (N := 1) rfl ?_); (try (refine gate_guard (by rfl) ?_; dsimp only)); refine bx_ (w := w) (N := 1) (cs := #[.string a0_0, .int .i64 a0_1, .bool false]) (t := 54) ?_; intro gb157 w10 BK157 n0_ GW157 GE157; clear HB; have HB := n0_; clear n0_) | ((with_reducible refine gate_dst (N := 2) rfl ?_); (try (refine gate_guard (by rfl) ?_; dsimp only)); refine be_ (N := 2) (cs := #[.string (⟨#[]⟩ : ByteArray), .int .i64 0, .bool false]) (t := 54) ?_; intro gb158 hg w11 hbox hb; have BK158 := am_ (hbox); have GW158 := gw_ (w := w) hg; have GE158 := gw_ (w := w) hg; replace HB := bt_ hb; have NB157_158 := ne_ hg BK157; have NB158_157 := nf_ hg BK157; replace BK157 := bw_ BK157 hb; clear hb hbox hg; have hnb12 := NB157_158.out; have hnc12 := NB158_157.out; obtain ⟨hcz13_0, hcz13_1, hcz13_2⟩ := cz3_ BK157.out; obtain ⟨hfz13_0, hfz13_1, hfz13_2⟩ := fz3_ BK157.out) | ((with_reducible refine gate_callee (f := 62) rfl ?_); refine goesL_ (some 17) rfl rfl Tryd.func62 (by kernel_rfl) rfl #[.agg #[.string a0_0, .int .i64 a0_1, .bool false], .int .i64 a0_1] rfl (by (try simp only [List.map_toArray, List.map_cons, List.map_nil]); first | done | rfl | (simp only [List.length_drop, List.length_take]; rfl)) ?_; (with_reducible refine (computusref25_fail.calls a0_0 a0_1 false a0_1 t159 t160 t161 _ A9.out).mono ?_); rintro e w14 ⟨rfl, hb⟩; refine ⟨_, rfl, ?_⟩; replace BK157 := bw_ BK157 hb; replace BK158 := bw_ BK158 hb; replace HB := bt_ hb; (try clear hb); obtain ⟨hcz15_0, hcz15_1, hcz15_2⟩ := cz3_ BK158.out; obtain ⟨hfz15_0, hfz15_1, hfz15_2⟩ := fz3_ BK158.out))
 refine bodyPost_ret (results_cell_row rfl _ _ gb158 54 #[.string t159, .int .i64 t160, .bool t161] (0, 0) _ rfl (by refine bp_ ?_; refine blk_put (cs := #[.string t159, .int .i64 t160, .bool false]) ?_ 2 _ rfl; refine bp_ ?_; refine blk_put (cs := #[.string t159, .int .i64 0, .bool false]) ?_ 1 _ rfl; refine bp_ ?_; refine blk_put (cs := #[.string (⟨#[]⟩ : ByteArray), .int .i64 0, .bool false]) ?_ 0 _ rfl; exact bk_ BK158.out) Tryd.underlying54 rfl (by kernel_rfl)) rfl ?_
 exact rt_
def computusref26_Choice.f (k : Nat) (a0_0 : ByteArray) (a0_1 : Int) (a0_2 : Bool) (l1 : List ByteArray) : Option (ByteArray × Int × Bool × Int) := (computusref25_Word.f k a0_0 a0_1 a0_2 (([(⟨#[32]⟩ : ByteArray)] : List ByteArray))).bind fun bt179 => ((computusref25_Word.f k bt179.1 bt179.2.1 bt179.2.2.1 l1).bind fun bt184 => (some (bt184.1, bt184.2.1, bt184.2.2.1, bt184.2.2.2)))
theorem computusref26_Choice.calls (k : Nat) (a0_0 : ByteArray) (a0_1 : Int) (a0_2 : Bool) (A1 : Option Addr) (c1 : Nat) (l1 : List ByteArray) (r1 : ByteArray) (r2 : Int) (r3 : Bool) (r4 : Int) (w : World) (hr1 : Kd.C Kd.string w A1 l1.length l1) (hc1 : l1.length ≤ c1) (h : computusref26_Choice.f k a0_0 a0_1 a0_2 l1 = some (r1, r2, r3, r4)) :
  Calls Tryd.prog 65 #[.agg #[.string a0_0, .int .i64 a0_1, .bool a0_2], .slice A1 l1.length c1] w fun e w' => e = .returned (.tuple #[.agg #[.string r1, .int .i64 r2, .bool r3], .int .i64 r4]) ∧ Below w.heap.size w w' := by
 have hu54 := Tryd.underlying54
 have HR1 := am_ hr1
 have HC1 := am_ hc1
 clear hr1 hc1
 have HB := am_ (Below.refl w.heap.size w)
 have H := h
 clear h
 unfold computusref26_Choice.f at H
 obtain ⟨y176, hy176⟩ : ∃ y_ : List ByteArray, y_ = (([(⟨#[32]⟩ : ByteArray)] : List ByteArray)) := ⟨_, rfl⟩
 replace H : ((computusref25_Word.f k a0_0 a0_1 a0_2 y176).bind fun bt179 => ((computusref25_Word.f k bt179.1 bt179.2.1 bt179.2.2.1 l1).bind fun bt184 => (some (bt184.1, bt184.2.1, bt184.2.2.1, bt184.2.2.2)))) = some (r1, r2, r3, r4) := by first | (rw [hy176]; with_reducible exact H) | (have H2_ := (Option.bind_some _ _).symm.trans H; rw [hy176]; with_reducible exact H2_) | (have H2_ := (Option.bind_some _ _).symm.trans H; with_reducible exact H2_) | with_reducible exact H | (rw [hy176]; exact H) | exact H
 have Ny176 := am_ hy176
 clear hy176
 obtain ⟨⟨t179, t180, t181, t182⟩, A3, H⟩ := bs_ H
 dsimp only at H
 obtain ⟨⟨t184, t185, t186, t187⟩, A4, H⟩ := bs_ H
 dsimp only at H
 simp only [Option.some.injEq, Prod.mk.injEq] at H
 obtain ⟨rfl, rfl, rfl, rfl⟩ := H
 go_enter Tryd.func65, Tryd.ntmps65
 go_wp2_with (first | ((with_reducible refine gate_dst (N := 2) rfl ?_); refine bx_ (w := w) (N := 2) (cs := #[.string a0_0, .int .i64 a0_1, .bool a0_2]) (t := 54) ?_; intro gb174 w5 BK174 n0_ GW174 GE174; clear HB; have HB := n0_; clear n0_) | ((with_reducible refine gate_dst (N := 4) rfl ?_); refine be_ (N := 4) (cs := #[.string (⟨#[]⟩ : ByteArray), .int .i64 0, .bool false]) (t := 54) ?_; intro gb175 hg w6 hbox hb; have BK175 := am_ (hbox); have GW175 := gw_ (w := w) hg; have GE175 := gw_ (w := w) hg; replace HB := bt_ hb; have NB174_175 := ne_ hg BK174; have NB175_174 := nf_ hg BK174; replace BK174 := bw_ BK174 hb; clear hb hbox hg; have hnb7 := NB174_175.out; have hnc7 := NB175_174.out; obtain ⟨hcz8_0, hcz8_1, hcz8_2⟩ := cz3_ BK174.out; obtain ⟨hfz8_0, hfz8_1, hfz8_2⟩ := fz3_ BK174.out) | ((with_reducible refine gate_dst (N := 10) rfl ?_); refine Kd.R_lit Kd.string _ 9 ?hg (N := 10) ?hd (xs := ([(⟨#[32]⟩ : ByteArray)] : List ByteArray)) (inner := [.string (⟨#[32]⟩ : ByteArray)]) (ok := fun _ => True) (okp := fun _ => True) ?hr ?hp (fun _ hk => hk) trivial (Below.refl _ _) (Nat.le_refl _) (by simp) ?_; (case hd => rfl); (case hg => rfl); (case hr => first | (go_simp; done) | (go_simp; rfl)); (case hp => exact (Reps.one (show Kd.M Kd.string _ _ _ (⟨#[32]⟩ : ByteArray) [.string (⟨#[32]⟩ : ByteArray)] from rfl) (Reps.none _ _))); intro v177 w9 ho10 hb hg_ hnew_; clear hg_ hnew_; (first | rw [← Ny176.out] at ho10 | (simp only [Int.reduceToNat] at ho10; rw [← Ny176.out] at ho10)); have HO178 := am_ (Kd.R_lower ho10 bz_); replace BK174 := bw_ BK174 hb; replace BK175 := bw_ BK175 hb; replace HB := bt_ hb; clear hb ho10; obtain ⟨Ao11, co11, eo11⟩ := Kd.R_slice HO178.out; subst eo11) | ((with_reducible refine gate_callee (f := 26) rfl ?_); refine goesL_ (some 11) rfl rfl Tryd.func26 (by kernel_rfl) rfl #[.agg #[.string a0_0, .int .i64 a0_1, .bool a0_2], .slice Ao11 y176.length co11] rfl (by (try simp only [List.map_toArray, List.map_cons, List.map_nil]); first | done | rfl | (simp only [List.length_drop, List.length_take]; rfl)) ?_; (with_reducible refine (computusref25_Word.calls k a0_0 a0_1 a0_2 _ _ y176 t179 t180 t181 t182 _ ?side1 ?side2 A3.out).mono ?_); (case side1 => exact ck_ (Kd.R_reads' HO178.out).2.2); (case side2 => exact (Kd.R_reads' HO178.out).2.1); rintro e w12 ⟨rfl, hb⟩; refine ⟨_, rfl, ?_⟩; replace HO178 := rw_ HO178 hb; replace BK174 := bw_ BK174 hb; replace BK175 := bw_ BK175 hb; replace HB := bt_ hb; (try clear hb); (try clear hk); (try clear hi)) | ((with_reducible refine gate_dst (N := 6) rfl ?_); refine be_ (N := 6) (cs := #[.string (⟨#[]⟩ : ByteArray), .int .i64 0, .bool false]) (t := 54) ?_; intro gb183 hg w13 hbox hb; replace HO178 := rw_ HO178 hb; have BK183 := am_ (hbox); have GW183 := gw_ (w := w) hg; have GE183 := gw_ (w := w) hg; replace HB := bt_ hb; have NB174_183 := ne_ hg BK174; have NB183_174 := nf_ hg BK174; replace BK174 := bw_ BK174 hb; have NB175_183 := ne_ hg BK175; have NB183_175 := nf_ hg BK175; replace BK175 := bw_ BK175 hb; clear hb hbox hg; have hnb14 := NB183_174.out; have hnc14 := NB174_183.out; have hnb15 := NB183_175.out; have hnc15 := NB175_183.out; obtain ⟨hcz16_0, hcz16_1, hcz16_2⟩ := cz3_ BK183.out; obtain ⟨hfz16_0, hfz16_1, hfz16_2⟩ := fz3_ BK183.out) | ((with_reducible refine gate_callee (f := 26) rfl ?_); refine goesL_ (some 16) rfl rfl Tryd.func26 (by kernel_rfl) rfl #[.agg #[.string t179, .int .i64 t180, .bool t181], .slice A1 l1.length c1] rfl (by (try simp only [List.map_toArray, List.map_cons, List.map_nil]); first | done | rfl | (simp only [List.length_drop, List.length_take]; rfl)) ?_; (with_reducible refine (computusref25_Word.calls k t179 t180 t181 _ _ l1 t184 t185 t186 t187 _ ?side1 ?side2 A4.out).mono ?_); (case side1 => exact Kd.C_below HR1.out bh_); (case side2 => exact HC1.out); rintro e w17 ⟨rfl, hb⟩; refine ⟨_, rfl, ?_⟩; replace HO178 := am_ (Kd.R_below (fa_ HO178 BK183) hb); replace BK174 := am_ (blk_below (g := gb174) (o := .cells #[.string a0_0, .int .i64 a0_1, .bool a0_2] 54 (0, 0)) (by refine bp_ ?_; refine blk_far ?_ NB174_183.out _; refine bp_ ?_; refine blk_far ?_ NB174_183.out _; refine bp_ ?_; refine blk_far ?_ NB174_183.out _; exact bk_ BK174.out) hb); replace BK175 := am_ (blk_below (g := gb175) (o := .cells #[.string (⟨#[]⟩ : ByteArray), .int .i64 0, .bool false] 54 (0, 0)) (by refine bp_ ?_; refine blk_far ?_ NB175_183.out _; refine bp_ ?_; refine blk_far ?_ NB175_183.out _; refine bp_ ?_; refine blk_far ?_ NB175_183.out _; exact bk_ BK175.out) hb); replace BK183 := am_ (blk_below (g := gb183) (o := .cells #[.string t179, .int .i64 t180, .bool t181] 54 (0, 0)) (by refine bp_ ?_; refine blk_put (cs := #[.string t179, .int .i64 t180, .bool false]) ?_ 2 _ rfl; refine bp_ ?_; refine blk_put (cs := #[.string t179, .int .i64 0, .bool false]) ?_ 1 _ rfl; refine bp_ ?_; refine blk_put (cs := #[.string (⟨#[]⟩ : ByteArray), .int .i64 0, .bool false]) ?_ 0 _ rfl; exact bk_ BK183.out) hb); replace HB := bt_ hb; (try clear hb); (try clear hk); obtain ⟨hcz18_0, hcz18_1, hcz18_2⟩ := cz3_ BK175.out; obtain ⟨hfz18_0, hfz18_1, hfz18_2⟩ := fz3_ BK175.out))
 refine bodyPost_ret (results_ct rfl _ _ gb175 54 #[.string t184, .int .i64 t185, .bool t186] (0, 0) _ rfl (by refine bp_ ?_; refine blk_put (cs := #[.string t184, .int .i64 t185, .bool false]) ?_ 2 _ rfl; refine bp_ ?_; refine blk_put (cs := #[.string t184, .int .i64 0, .bool false]) ?_ 1 _ rfl; refine bp_ ?_; refine blk_put (cs := #[.string (⟨#[]⟩ : ByteArray), .int .i64 0, .bool false]) ?_ 0 _ rfl; exact bk_ BK175.out) Tryd.underlying54 rfl (by kernel_rfl)) rfl ?_
 exact rt_
def computusref04_Name.f (a0 : Int) : Option (ByteArray) := if a0 = 0 then (some (⟨#[115, 117, 110, 100, 97, 121]⟩ : ByteArray)) else (if a0 = 1 then (some (⟨#[109, 111, 110, 100, 97, 121]⟩ : ByteArray)) else (if a0 = 2 then (some (⟨#[116, 117, 101, 115, 100, 97, 121]⟩ : ByteArray)) else (if a0 = 3 then (some (⟨#[119, 101, 100, 110, 101, 115, 100, 97, 121]⟩ : ByteArray)) else (if a0 = 4 then (some (⟨#[116, 104, 117, 114, 115, 100, 97, 121]⟩ : ByteArray)) else (if a0 = 5 then (some (⟨#[102, 114, 105, 100, 97, 121]⟩ : ByteArray)) else (if a0 = 6 then (some (⟨#[115, 97, 116, 117, 114, 100, 97, 121]⟩ : ByteArray)) else (some (⟨#[]⟩ : ByteArray))))))))
theorem computusref04_Name.calls (a0 : Int) (r : ByteArray) (w : World) (h : computusref04_Name.f a0 = some r) :
  Calls Tryd.prog 40 #[.int .i64 a0] w fun e w' => e = .returned (.string r) ∧ Drawn0 w w' := by
 have H := h
 clear h
 unfold computusref04_Name.f at H
 by_cases c2 : a0 = 0
 ·rw [if_pos c2] at H
  have c2b0 : (a0 == 0) = true := beq_iff_eq.mpr c2
  have c2b1 : (a0 != 0) = false := bne_eq_false_iff_eq.mpr c2
  clear c2
  obtain rfl := Option.some.inj H
  go_enter Tryd.func40, Tryd.ntmps40
  go_wp2
  go_ret
  exact ⟨by first | rfl | (simp; done) | (simp [*]; done), by repeat (first | exact Drawn0.refl _ | apply Drawn0.step)⟩
 rw [if_neg c2] at H
 have c2b0 : (a0 == 0) = false := beq_eq_false_iff_ne.mpr c2
 have c2b1 : (a0 != 0) = true := bne_iff_ne.mpr c2
 by_cases c3 : a0 = 1
 ·rw [if_pos c3] at H
  have c3b0 : (a0 == 1) = true := beq_iff_eq.mpr c3
  have c3b1 : (a0 != 1) = false := bne_eq_false_iff_eq.mpr c3
  clear c3
  obtain rfl := Option.some.inj H
  go_enter Tryd.func40, Tryd.ntmps40
  go_wp2
  go_ret
  exact ⟨by first | rfl | (simp; done) | (simp [*]; done), by repeat (first | exact Drawn0.refl _ | apply Drawn0.step)⟩
 rw [if_neg c3] at H
 have c3b0 : (a0 == 1) = false := beq_eq_false_iff_ne.mpr c3
 have c3b1 : (a0 != 1) = true := bne_iff_ne.mpr c3
 by_cases c4 : a0 = 2
 ·rw [if_pos c4] at H
  have c4b0 : (a0 == 2) = true := beq_iff_eq.mpr c4
  have c4b1 : (a0 != 2) = false := bne_eq_false_iff_eq.mpr c4
  clear c4
  obtain rfl := Option.some.inj H
  go_enter Tryd.func40, Tryd.ntmps40
  go_wp2
  go_ret
  exact ⟨by first | rfl | (simp; done) | (simp [*]; done), by repeat (first | exact Drawn0.refl _ | apply Drawn0.step)⟩
 rw [if_neg c4] at H
 have c4b0 : (a0 == 2) = false := beq_eq_false_iff_ne.mpr c4
 have c4b1 : (a0 != 2) = true := bne_iff_ne.mpr c4
 by_cases c5 : a0 = 3
 ·rw [if_pos c5] at H
  have c5b0 : (a0 == 3) = true := beq_iff_eq.mpr c5
  have c5b1 : (a0 != 3) = false := bne_eq_false_iff_eq.mpr c5
  clear c5
  obtain rfl := Option.some.inj H
  go_enter Tryd.func40, Tryd.ntmps40
  go_wp2
  go_ret
  exact ⟨by first | rfl | (simp; done) | (simp [*]; done), by repeat (first | exact Drawn0.refl _ | apply Drawn0.step)⟩
 rw [if_neg c5] at H
 have c5b0 : (a0 == 3) = false := beq_eq_false_iff_ne.mpr c5
 have c5b1 : (a0 != 3) = true := bne_iff_ne.mpr c5
 by_cases c6 : a0 = 4
 ·rw [if_pos c6] at H
  have c6b0 : (a0 == 4) = true := beq_iff_eq.mpr c6
  have c6b1 : (a0 != 4) = false := bne_eq_false_iff_eq.mpr c6
  clear c6
  obtain rfl := Option.some.inj H
  go_enter Tryd.func40, Tryd.ntmps40
  go_wp2
  go_ret
  exact ⟨by first | rfl | (simp; done) | (simp [*]; done), by repeat (first | exact Drawn0.refl _ | apply Drawn0.step)⟩
 rw [if_neg c6] at H
 have c6b0 : (a0 == 4) = false := beq_eq_false_iff_ne.mpr c6
 have c6b1 : (a0 != 4) = true := bne_iff_ne.mpr c6
 by_cases c7 : a0 = 5
 ·rw [if_pos c7] at H
  have c7b0 : (a0 == 5) = true := beq_iff_eq.mpr c7
  have c7b1 : (a0 != 5) = false := bne_eq_false_iff_eq.mpr c7
  clear c7
  obtain rfl := Option.some.inj H
  go_enter Tryd.func40, Tryd.ntmps40
  go_wp2
  go_ret
  exact ⟨by first | rfl | (simp; done) | (simp [*]; done), by repeat (first | exact Drawn0.refl _ | apply Drawn0.step)⟩
 rw [if_neg c7] at H
 have c7b0 : (a0 == 5) = false := beq_eq_false_iff_ne.mpr c7
 have c7b1 : (a0 != 5) = true := bne_iff_ne.mpr c7
 by_cases c8 : a0 = 6
 rotate_left
 ·rw [if_neg c8] at H
  have c8b0 : (a0 == 6) = false := beq_eq_false_iff_ne.mpr c8
  have c8b1 : (a0 != 6) = true := bne_iff_ne.mpr c8
  obtain rfl := Option.some.inj H
  go_enter Tryd.func40, Tryd.ntmps40
  go_wp2
  go_ret
  exact ⟨by first | rfl | (simp; done) | (simp [*]; done), by repeat (first | exact Drawn0.refl _ | apply Drawn0.step)⟩
 rw [if_pos c8] at H
 have c8b0 : (a0 == 6) = true := beq_iff_eq.mpr c8
 have c8b1 : (a0 != 6) = false := bne_eq_false_iff_eq.mpr c8
 clear c8
 obtain rfl := Option.some.inj H
 go_enter Tryd.func40, Tryd.ntmps40
 go_wp2
 go_ret
 exact ⟨by first | rfl | (simp; done) | (simp [*]; done), by repeat (first | exact Drawn0.refl _ | apply Drawn0.step)⟩
def computusref26_Weekdays.l0 : Nat → List ByteArray → Int → Option (List ByteArray)
 | 0, _, _ => none
 | k + 1, x1, x2 => if x2 < 7 then ((computusref04_Name.f x2).bind fun t188 => (if x1.length < 8796093022208 then (computusref26_Weekdays.l0 k (x1 ++ [t188]) (wrap64 (x2 + 1))) else (none))) else (some x1)
def computusref26_Weekdays.f (k : Nat)  : Option (List ByteArray) := computusref26_Weekdays.l0 k ([] : List ByteArray) 0
theorem computusref26_Weekdays.mono_l : ∀ k, (∀ y0 y1, LeO (computusref26_Weekdays.l0 k y0 y1) (computusref26_Weekdays.l0 (k + 1) y0 y1))
 | 0 => fun _ _ r h => by simp [computusref26_Weekdays.l0] at h
 | k + 1 => by
  have ih0 := computusref26_Weekdays.mono_l k
  ·intro y0 y1
   unfold computusref26_Weekdays.l0
   repeat' first | (with_reducible first | exact ih0 _ _ | exact lr_ _ | exact ln_ _ | refine li_ ?_ ?_ | refine lb_ ?_ fun _ => ?_) | exact ln_ _ | refine li_ ?_ ?_ | refine lb_ ?_ fun _ => ?_
theorem computusref26_Weekdays.mono : ∀ k, LeO (computusref26_Weekdays.f k ) (computusref26_Weekdays.f (k + 1) ) := by
 intro  k
 have ih0 := computusref26_Weekdays.mono_l k
 unfold computusref26_Weekdays.f
 repeat' first | (with_reducible first | exact ih0 _ _ | exact lr_ _ | exact ln_ _ | refine li_ ?_ ?_ | refine lb_ ?_ fun _ => ?_) | exact ln_ _ | refine li_ ?_ ?_ | refine lb_ ?_ fun _ => ?_
theorem computusref26_Weekdays.calls (k : Nat)  (r : List ByteArray) (w : World) (h : computusref26_Weekdays.f k  = some r) :
  Calls Tryd.prog 66 #[] w fun e w' => ∃ v0_ : Value, e = .returned (v0_) ∧ Kd.R Kd.string 9 w' w.heap.size (fun _ => True) v0_ r ∧ Below w.heap.size w w' := by
 have HB := am_ (Below.refl w.heap.size w)
 have H := h
 clear h
 unfold computusref26_Weekdays.f at H
 have H' := am_ H
 clear H
 go_enter Tryd.func66, Tryd.ntmps66
 go_wp2
 go_loopg [1, 2] k (fun kq v1 v2 w' => ∃ (x1_1 : List ByteArray) (x2_1 : Int), v2 = .int .i64 x2_1 ∧ Aside0 (computusref26_Weekdays.l0 kq x1_1 x2_1 = some r) ∧ Aside0 (kq ≤ k) ∧ Aside0 (Kd.R Kd.string 9 w' w.heap.size (fun _ => True) v1 x1_1) ∧ Aside0 (Below w.heap.size w w'))
 case atStart => exact ⟨(([] : List ByteArray)), (0), rs_, H', ⟨Nat.le_refl _⟩, ⟨nl_⟩, ⟨bh_⟩⟩
 case round =>
  clear H'
  obtain ⟨x1_1, x2_1, rfl, HA, HK1, HO_1, HB⟩ := hrel
  cases gk with
  | zero => exact absurd HA.out (by simp [computusref26_Weekdays.l0])
  | succ k1 =>
   have H := HA.out
   clear HA
   simp only [computusref26_Weekdays.l0] at H
   by_cases c1 : x2_1 < 7
   rotate_left
   ·rw [if_neg c1] at H
    have c1b0 : decide (x2_1 < 7) = false := decide_eq_false c1
    clear c1
    obtain rfl := Option.some.inj H
    go_wp2
    go_ret
    exact ⟨_, by first | rfl | (simp [errW_none, errW_some] <;> rfl) | (simp [*, errW_none, errW_some] <;> rfl), rk_ HO_1.out, bh_⟩
   rw [if_pos c1] at H
   have c1b0 : decide (x2_1 < 7) = true := decide_eq_true c1
   clear c1
   obtain ⟨t188, A2, H⟩ := bs_ H
   by_cases c3 : x1_1.length < 8796093022208
   rotate_left
   ·rw [if_neg c3] at H
    exact absurd H (by simp)
   rw [if_pos c3] at H
   have LMc3 := am_ c3
   clear c3
   obtain ⟨y189, hy189⟩ : ∃ y_ : List ByteArray, y_ = (x1_1 ++ [t188]) := ⟨_, rfl⟩
   replace H : (computusref26_Weekdays.l0 k1 y189 (wrap64 (x2_1 + 1))) = some r := by first | (rw [hy189]; with_reducible exact H) | (have H2_ := (Option.bind_some _ _).symm.trans H; rw [hy189]; with_reducible exact H2_) | (have H2_ := (Option.bind_some _ _).symm.trans H; with_reducible exact H2_) | with_reducible exact H | (rw [hy189]; exact H) | exact H
   have Ny189 := am_ hy189
   clear hy189
   have H' := am_ H
   clear H
   go_wp2_with (first | ((with_reducible refine gate_callee (f := 40) rfl ?_); refine goesL_ (some 9) rfl rfl Tryd.func40 (by kernel_rfl) rfl #[.int .i64 x2_1] rfl (by (try simp only [List.map_toArray, List.map_cons, List.map_nil]); first | done | rfl | (simp only [List.length_drop, List.length_take]; rfl)) ?_; (with_reducible refine (computusref04_Name.calls x2_1 t188 _ A2.out).mono ?_); rintro e w' ⟨rfl, ⟨nd, rfl⟩⟩; refine ⟨_, rfl, ?_⟩) | ((with_reducible refine gate_builtin (b := .append) (xs := #[.tmp 7, .tmp 10]) rfl ?_); at_builtin; refine Kd.R_append Kd.string (w0 := w) w.heap.size rfl (.tmp 7) (.tmp 10) 38 9 (.string ⟨#[]⟩) 16 rfl Tryd.underlying38 info9 rfl (by decide) (by omega) u1 x1_1 t188 [.string t188] (fun _ => True) (fun _ => False) rfl rfl ?aP (fun _ hk => hk.elim) ?aF ?aO ?aB ?aS ?aL ?_; (case aP => exact rfl); (case aB => exact bh_); (case aF => exact (fun _ _ => trivial)); (case aO => exact (rk_ HO_1.out)); (case aS => exact bz_); (case aL => have := LMc3.out; omega); intro v190 w4 ho hb hg hat; rw [← Ny189.out] at ho; have n0_ := am_ (hb); have n1_ := am_ (ho); clear HB; clear HO_1; have HB := n0_; have HO191 := n1_; clear n0_ n1_; clear ho hb hg hat))
   go_roundg k1
   case measure => have := HK1.out; omega
   case rel => exact ⟨(y189), (wrap64 (x2_1 + 1)), rs_, H', ⟨by have := HK1.out; omega⟩, ⟨rk_ HO191.out⟩, ⟨bh_⟩⟩
mutual
def computusref23_Same.j0 : Nat → Bool → Int → List (S40) → Int → List (S40) → Option (Bool)
 | 0, _, _, _, _, _ => none
 | k + 1, x19, x340000, x340001, x341000, x341001 => if x19 = true then (some false) else (computusref23_Same.l0 k 0 x340000 x340001 x341000 x341001)
def computusref23_Same.l0 : Nat → Int → Int → List (S40) → Int → List (S40) → Option (Bool)
 | 0, _, _, _, _, _ => none
 | k + 1, x5, x340000, x340001, x341000, x341001 => if x5 < (x340001.length : Int) then (if 0 ≤ x5 then (if x5 < (x341001.length : Int) then ((computusref23_SameEntry.f k ((rd_T40 x340001 x5).f0.f0) ((rd_T40 x340001 x5).f0.f1) ((rd_T40 x340001 x5).f0.f2) ((rd_T40 x340001 x5).f1) ((rd_T40 x340001 x5).f2) ((rd_T40 x340001 x5).f3) ((rd_T40 x340001 x5).f4) ((rd_T40 x340001 x5).f5) ((rd_T40 x340001 x5).f6) ((rd_T40 x340001 x5).f7.f0) ((rd_T40 x340001 x5).f7.f1) ((rd_T40 x340001 x5).f7.f2) ((rd_T40 x340001 x5).f8) ((rd_T40 x340001 x5).f9) ((rd_T40 x341001 x5).f0.f0) ((rd_T40 x341001 x5).f0.f1) ((rd_T40 x341001 x5).f0.f2) ((rd_T40 x341001 x5).f1) ((rd_T40 x341001 x5).f2) ((rd_T40 x341001 x5).f3) ((rd_T40 x341001 x5).f4) ((rd_T40 x341001 x5).f5) ((rd_T40 x341001 x5).f6) ((rd_T40 x341001 x5).f7.f0) ((rd_T40 x341001 x5).f7.f1) ((rd_T40 x341001 x5).f7.f2) ((rd_T40 x341001 x5).f8) ((rd_T40 x341001 x5).f9)).bind fun t343 => (if t343 = true then (computusref23_Same.l0 k (wrap64 (x5 + 1)) x340000 x340001 x341000 x341001) else (some false))) else (none)) else (none)) else (some true)
end
def computusref23_Same.f (k : Nat) (a0_0 : Int) (l0_1 : List (S40)) (a1_0 : Int) (l1_1 : List (S40)) : Option (Bool) := if a0_0 = a1_0 then (computusref23_Same.j0 k ((l0_1.length : Int) != (l1_1.length : Int)) a0_0 l0_1 a1_0 l1_1) else (computusref23_Same.j0 k true a0_0 l0_1 a1_0 l1_1)
def computusref23_Same.T6 : Bool × List (List Nat × List Nat) := (true, [([], []), ([0], [0]), ([], []), ([1, 2], [1, 2]), ([3], [3]), ([], []), ([5], [5]), ([], []), ([6, 7], [6, 7]), ([8], [8]), ([4, 9], [4, 9]), ([10], [10])])
def computusref23_Same.B6 : List Nat := [0, 1, 0, 7, 15, 0, 32, 0, 224, 480, 1023, 2047]
theorem computusref23_Same.tab6 : rtab .any (opsOf Tryd.f11 6) = computusref23_Same.T6 := by kernel_rfl
theorem computusref23_Same.bits6 : waitsOk computusref23_Same.T6.2 computusref23_Same.B6 = true := by kernel_rfl
theorem computusref23_Same.calls (k : Nat) (a0_0 : Int) (A0_1 : Option Addr) (c0_1 : Nat) (l0_1 : List (S40)) (a1_0 : Int) (A1_1 : Option Addr) (c1_1 : Nat) (l1_1 : List (S40)) (r : Bool) (w : World) (hr0_1 : Kd.C k40 w A0_1 l0_1.length l0_1) (hc0_1 : l0_1.length ≤ c0_1) (hr1_1 : Kd.C k40 w A1_1 l1_1.length l1_1) (hc1_1 : l1_1.length ≤ c1_1) (h : computusref23_Same.f k a0_0 l0_1 a1_0 l1_1 = some r) :
  Calls Tryd.prog 11 #[.agg #[.int .i64 a0_0, .slice A0_1 l0_1.length c0_1], .agg #[.int .i64 a1_0, .slice A1_1 l1_1.length c1_1]] w fun e w' => e = .returned (.bool r) ∧ Below w.heap.size w w' := by
 have hu25 := Tryd.underlying25
 have hu40 := Tryd.underlying40
 have HR0_1 := am_ hr0_1
 have HC0_1 := am_ hc0_1
 clear hr0_1 hc0_1
 have HR1_1 := am_ hr1_1
 have HC1_1 := am_ hc1_1
 clear hr1_1 hc1_1
 have HB := am_ (Below.refl w.heap.size w)
 have H := h
 clear h
 unfold computusref23_Same.f at H
 have HC3 := am_ H
 clear H
 go_enter Tryd.func11, Tryd.ntmps11
 go_upto_region 1 with (first | ((with_reducible refine gate_dst (N := 2) rfl ?_); (try (refine gate_guard (by rfl) ?_; dsimp only)); refine bx_ (w := w) (N := 2) (cs := #[.int .i64 a0_0, .slice A0_1 l0_1.length c0_1]) (t := 25) ?_; intro gb339 w4 BK339 n0_ GW339 GE339; clear HB; have HB := n0_; clear n0_) | ((with_reducible refine gate_dst (N := 3) rfl ?_); (try (refine gate_guard (by rfl) ?_; dsimp only)); refine be_ (N := 3) (cs := #[.int .i64 a1_0, .slice A1_1 l1_1.length c1_1]) (t := 25) ?_; intro gb340 hg w5 hbox hb; have BK340 := am_ (hbox); have GW340 := gw_ (w := w) hg; have GE340 := gw_ (w := w) hg; replace HB := bt_ hb; have NB339_340 := ne_ hg BK339; have NB340_339 := nf_ hg BK339; replace BK339 := bw_ BK339 hb; clear hb hbox hg))
 (try simp only [Act.put, sA_, sZ_, sS_])
 go_cut [19] (fun v19 wc => ∃ (kq : Nat) (x19_2 : Bool), v19 = .bool x19_2 ∧ Aside0 (computusref23_Same.j0 kq x19_2 a0_0 l0_1 a1_0 l1_1 = some r) ∧ Aside0 (kq ≤ k) ∧ Aside0 (wc.heap[gb339]? = some (.cells #[.int .i64 a0_0, (.slice A0_1 l0_1.length c0_1)] 25 (0, 0))) ∧ Aside0 (wc.heap[gb340]? = some (.cells #[.int .i64 a1_0, (.slice A1_1 l1_1.length c1_1)] 25 (0, 0))) ∧ Aside0 (Below w.heap.size w wc))
 case first =>
  have H := HC3.out
  clear HC3
  by_cases c6 : a0_0 = a1_0
  rotate_left
  ·rw [if_neg c6] at H
   have c6b0 : (a0_0 == a1_0) = false := beq_eq_false_iff_ne.mpr c6
   have c6b1 : (a0_0 != a1_0) = true := bne_iff_ne.mpr c6
   (first | rw [c6b0] | (simp only [i64_w, i32_w]; rw [c6b0]) | skip)
   have H' := am_ H
   clear H
   have hnb10 := NB339_340.out
   have hnc10 := NB340_339.out
   obtain ⟨hcz11_0, hcz11_1⟩ := cz2_ BK339.out
   obtain ⟨hfz11_0, hfz11_1⟩ := fz2_ BK339.out
   obtain ⟨hcz12_0, hcz12_1⟩ := cz2_ BK340.out
   obtain ⟨hfz12_0, hfz12_1⟩ := fz2_ BK340.out
   go_wp2
   go_meet
   case rel => exact ⟨_, (true), rs_, H', ⟨by first | omega | exact Nat.le_refl _⟩, ⟨bk_ BK339.out⟩, ⟨bk_ BK340.out⟩, ⟨bh_⟩⟩
  rw [if_pos c6] at H
  have c6b0 : (a0_0 == a1_0) = true := beq_iff_eq.mpr c6
  have c6b1 : (a0_0 != a1_0) = false := bne_eq_false_iff_eq.mpr c6
  clear c6
  (first | rw [c6b0] | (simp only [i64_w, i32_w]; rw [c6b0]) | skip)
  have H' := am_ H
  clear H
  have hnb7 := NB339_340.out
  have hnc7 := NB340_339.out
  obtain ⟨hcz8_0, hcz8_1⟩ := cz2_ BK339.out
  obtain ⟨hfz8_0, hfz8_1⟩ := fz2_ BK339.out
  obtain ⟨hcz9_0, hcz9_1⟩ := cz2_ BK340.out
  obtain ⟨hfz9_0, hfz9_1⟩ := fz2_ BK340.out
  go_wp2
  go_meet
  case rel => exact ⟨_, (((l0_1.length : Int) != (l1_1.length : Int))), rs_, H', ⟨by first | omega | exact Nat.le_refl _⟩, ⟨bk_ BK339.out⟩, ⟨bk_ BK340.out⟩, ⟨bh_⟩⟩
 case rest =>
  clear HC3
  obtain ⟨kq, x19_2, rfl, HA, HJ2, BK339, BK340, HB⟩ := hcut
  cases kq with
  | zero => exact absurd HA.out (by simp [computusref23_Same.j0])
  | succ kj2 =>
   have H := HA.out
   clear HA
   simp only [computusref23_Same.j0] at H
   by_cases c13 : x19_2 = true
   ·subst c13
    replace H := it_ H
    obtain rfl := Option.some.inj H
    go_wp2
    go_ret
    exact rt_
   replace c13 := Bool.eq_false_iff.mpr c13
   subst c13
   replace H := if_ H
   have H' := am_ H
   clear H
   go_wp2
   go_loopg [5] kj2 (fun kq v5 w' => ∃ (x5_2 : Int), v5 = .int .i64 x5_2 ∧ Aside0 (computusref23_Same.l0 kq x5_2 a0_0 l0_1 a1_0 l1_1 = some r) ∧ Aside0 (kq ≤ kj2) ∧ Aside0 (w'.heap[gb339]? = some (.cells #[.int .i64 a0_0, (.slice A0_1 l0_1.length c0_1)] 25 (0, 0))) ∧ Aside0 (w'.heap[gb340]? = some (.cells #[.int .i64 a1_0, (.slice A1_1 l1_1.length c1_1)] 25 (0, 0))) ∧ Aside0 (Below w.heap.size w w'))
   case atStart => exact ⟨(0), rs_, H', ⟨Nat.le_refl _⟩, ⟨bk_ BK339.out⟩, ⟨bk_ BK340.out⟩, ⟨bh_⟩⟩
   case round =>
    clear H'
    obtain ⟨x5_2, rfl, HA, HK2, BK339, BK340, HB⟩ := hrel
    cases gk with
    | zero => exact absurd HA.out (by simp [computusref23_Same.l0])
    | succ k2 =>
     have H := HA.out
     clear HA
     simp only [computusref23_Same.l0] at H
     by_cases c14 : x5_2 < (l0_1.length : Int)
     rotate_left
     ·rw [if_neg c14] at H
      have c14b0 : decide (x5_2 < (l0_1.length : Int)) = false := decide_eq_false c14
      clear c14
      obtain rfl := Option.some.inj H
      have hnb27 := NB339_340.out
      have hnc27 := NB340_339.out
      obtain ⟨hcz28_0, hcz28_1⟩ := cz2_ BK339.out
      obtain ⟨hfz28_0, hfz28_1⟩ := fz2_ BK339.out
      go_wp2
      go_ret
      exact rt_
     rw [if_pos c14] at H
     have c14b0 : decide (x5_2 < (l0_1.length : Int)) = true := decide_eq_true c14
     clear c14
     by_cases c15 : 0 ≤ x5_2
     rotate_left
     ·rw [if_neg c15] at H
      exact absurd H (by simp)
     rw [if_pos c15] at H
     have c15b0 : decide (0 ≤ x5_2) = true := decide_eq_true c15
     clear c15
     by_cases c16 : x5_2 < (l1_1.length : Int)
     rotate_left
     ·rw [if_neg c16] at H
      exact absurd H (by simp)
     rw [if_pos c16] at H
     have c16b0 : decide (x5_2 < (l1_1.length : Int)) = true := decide_eq_true c16
     clear c16
     obtain ⟨t343, A17, H⟩ := bs_ H
     by_cases c18 : t343 = true
     rotate_left
     ·replace c18 := Bool.eq_false_iff.mpr c18
      subst c18
      replace H := if_ H
      obtain rfl := Option.some.inj H
      have hnb23 := NB339_340.out
      have hnc23 := NB340_339.out
      obtain ⟨hcz24_0, hcz24_1⟩ := cz2_ BK339.out
      obtain ⟨hfz24_0, hfz24_1⟩ := fz2_ BK339.out
      try go_wp2
      replace BK339 := am_ (blk_drew BK339.out)
      replace BK340 := am_ (blk_drew BK340.out)
      replace HB := am_ (below_drew1 HB.out)
      have p341 : 0 ≤ (x5_2 : Int) := of_decide_eq_true as_
      have q341 : x5_2 < (l0_1.length : Int) := of_decide_eq_true as_
      obtain ⟨ad341, A341_12, c341_12, A341_13, c341_13, e341, hx341_0, hx341_1, hx341_2, hx341_3, hx341_4, hx341_5, hx341_6, hx341_7, hx341_8, hx341_9, hx341_10, hx341_11, hx341_12, hx341_13, hl341_12, hi341_12, hl341_13, hi341_13⟩ := at_T40 HR0_1.out x5_2 p341 q341
      have hw341_13 := hx341_13
      have hw341_12 := hx341_12
      have hw341_11 := hx341_11
      have hw341_10 := hx341_10
      have hw341_9 := hx341_9
      have hw341_8 := hx341_8
      have hw341_7 := hx341_7
      have hw341_6 := hx341_6
      have hw341_5 := hx341_5
      have hw341_4 := hx341_4
      have hw341_3 := hx341_3
      have hw341_2 := hx341_2
      have hw341_1 := hx341_1
      have hw341_0 := hx341_0
      cases e341
      replace hx341_0 := cm_ HB.out hx341_0
      replace hx341_1 := cm_ HB.out hx341_1
      replace hx341_2 := cm_ HB.out hx341_2
      replace hx341_3 := cm_ HB.out hx341_3
      replace hx341_4 := cm_ HB.out hx341_4
      replace hx341_5 := cm_ HB.out hx341_5
      replace hx341_6 := cm_ HB.out hx341_6
      replace hx341_7 := cm_ HB.out hx341_7
      replace hx341_8 := cm_ HB.out hx341_8
      replace hx341_9 := cm_ HB.out hx341_9
      replace hx341_10 := cm_ HB.out hx341_10
      replace hx341_11 := cm_ HB.out hx341_11
      replace hx341_12 := cm_ HB.out hx341_12
      replace hx341_13 := cm_ HB.out hx341_13
      have HR341_12 := am_ hi341_12
      have HC341_12 := am_ hl341_12
      clear hi341_12 hl341_12
      have HR341_13 := am_ hi341_13
      have HC341_13 := am_ hl341_13
      clear hi341_13 hl341_13
      replace p341 := eq_true p341
      replace q341 := eq_true q341
      have p342 : 0 ≤ (x5_2 : Int) := of_decide_eq_true as_
      have q342 : x5_2 < (l1_1.length : Int) := of_decide_eq_true as_
      obtain ⟨ad342, A342_12, c342_12, A342_13, c342_13, e342, hx342_0, hx342_1, hx342_2, hx342_3, hx342_4, hx342_5, hx342_6, hx342_7, hx342_8, hx342_9, hx342_10, hx342_11, hx342_12, hx342_13, hl342_12, hi342_12, hl342_13, hi342_13⟩ := at_T40 HR1_1.out x5_2 p342 q342
      have hw342_13 := hx342_13
      have hw342_12 := hx342_12
      have hw342_11 := hx342_11
      have hw342_10 := hx342_10
      have hw342_9 := hx342_9
      have hw342_8 := hx342_8
      have hw342_7 := hx342_7
      have hw342_6 := hx342_6
      have hw342_5 := hx342_5
      have hw342_4 := hx342_4
      have hw342_3 := hx342_3
      have hw342_2 := hx342_2
      have hw342_1 := hx342_1
      have hw342_0 := hx342_0
      cases e342
      replace hx342_0 := cm_ HB.out hx342_0
      replace hx342_1 := cm_ HB.out hx342_1
      replace hx342_2 := cm_ HB.out hx342_2
      replace hx342_3 := cm_ HB.out hx342_3
      replace hx342_4 := cm_ HB.out hx342_4
      replace hx342_5 := cm_ HB.out hx342_5
      replace hx342_6 := cm_ HB.out hx342_6
      replace hx342_7 := cm_ HB.out hx342_7
      replace hx342_8 := cm_ HB.out hx342_8
      replace hx342_9 := cm_ HB.out hx342_9
      replace hx342_10 := cm_ HB.out hx342_10
      replace hx342_11 := cm_ HB.out hx342_11
      replace hx342_12 := cm_ HB.out hx342_12
      replace hx342_13 := cm_ HB.out hx342_13
      have HR342_12 := am_ hi342_12
      have HC342_12 := am_ hl342_12
      clear hi342_12 hl342_12
      have HR342_13 := am_ hi342_13
      have HC342_13 := am_ hl342_13
      clear hi342_13 hl342_13
      replace p342 := eq_true p342
      replace q342 := eq_true q342
      refine start_ (n := 12) (S := fun w' => w'.cell? ⟨gb339, 0, none⟩ = some (.int .i64 a0_0) ∧ w'.cell? ⟨gb339, 1, none⟩ = some (.slice (some ad341) l0_1.length c0_1) ∧ w'.cell? ⟨gb340, 0, none⟩ = some (.int .i64 a1_0) ∧ w'.cell? ⟨gb340, 1, none⟩ = some (.slice (some ad342) l1_1.length c1_1) ∧ w'.cell? (ad341.add ((x5_2).toNat * 14)) = some (.int .i64 ((rd_T40 l0_1 x5_2).f0.f0)) ∧ w'.cell? ⟨(ad341.add ((x5_2).toNat * 14)).block, (ad341.add ((x5_2).toNat * 14)).off + 1, none⟩ = some (.int .i64 ((rd_T40 l0_1 x5_2).f0.f1)) ∧ w'.cell? ⟨(ad341.add ((x5_2).toNat * 14)).block, (ad341.add ((x5_2).toNat * 14)).off + 2, none⟩ = some (.int .i64 ((rd_T40 l0_1 x5_2).f0.f2)) ∧ w'.cell? ⟨(ad341.add ((x5_2).toNat * 14)).block, (ad341.add ((x5_2).toNat * 14)).off + 3, none⟩ = some (.int .i64 ((rd_T40 l0_1 x5_2).f1)) ∧ w'.cell? ⟨(ad341.add ((x5_2).toNat * 14)).block, (ad341.add ((x5_2).toNat * 14)).off + 4, none⟩ = some (.string ((rd_T40 l0_1 x5_2).f2)) ∧ w'.cell? ⟨(ad341.add ((x5_2).toNat * 14)).block, (ad341.add ((x5_2).toNat * 14)).off + 5, none⟩ = some (.int .i64 ((rd_T40 l0_1 x5_2).f3)) ∧ w'.cell? ⟨(ad341.add ((x5_2).toNat * 14)).block, (ad341.add ((x5_2).toNat * 14)).off + 6, none⟩ = some (.int .i64 ((rd_T40 l0_1 x5_2).f4)) ∧ w'.cell? ⟨(ad341.add ((x5_2).toNat * 14)).block, (ad341.add ((x5_2).toNat * 14)).off + 7, none⟩ = some (.string ((rd_T40 l0_1 x5_2).f5)) ∧ w'.cell? ⟨(ad341.add ((x5_2).toNat * 14)).block, (ad341.add ((x5_2).toNat * 14)).off + 8, none⟩ = some (.int .i64 ((rd_T40 l0_1 x5_2).f6)) ∧ w'.cell? ⟨(ad341.add ((x5_2).toNat * 14)).block, (ad341.add ((x5_2).toNat * 14)).off + 9, none⟩ = some (.int .i64 ((rd_T40 l0_1 x5_2).f7.f0)) ∧ w'.cell? ⟨(ad341.add ((x5_2).toNat * 14)).block, (ad341.add ((x5_2).toNat * 14)).off + 10, none⟩ = some (.int .i64 ((rd_T40 l0_1 x5_2).f7.f1)) ∧ w'.cell? ⟨(ad341.add ((x5_2).toNat * 14)).block, (ad341.add ((x5_2).toNat * 14)).off + 11, none⟩ = some (.int .i64 ((rd_T40 l0_1 x5_2).f7.f2)) ∧ w'.cell? ⟨(ad341.add ((x5_2).toNat * 14)).block, (ad341.add ((x5_2).toNat * 14)).off + 12, none⟩ = some (.slice A341_12 ((rd_T40 l0_1 x5_2).f8).length c341_12) ∧ w'.cell? ⟨(ad341.add ((x5_2).toNat * 14)).block, (ad341.add ((x5_2).toNat * 14)).off + 13, none⟩ = some (.slice A341_13 ((rd_T40 l0_1 x5_2).f9).length c341_13) ∧ w'.cell? (ad342.add ((x5_2).toNat * 14)) = some (.int .i64 ((rd_T40 l1_1 x5_2).f0.f0)) ∧ w'.cell? ⟨(ad342.add ((x5_2).toNat * 14)).block, (ad342.add ((x5_2).toNat * 14)).off + 1, none⟩ = some (.int .i64 ((rd_T40 l1_1 x5_2).f0.f1)) ∧ w'.cell? ⟨(ad342.add ((x5_2).toNat * 14)).block, (ad342.add ((x5_2).toNat * 14)).off + 2, none⟩ = some (.int .i64 ((rd_T40 l1_1 x5_2).f0.f2)) ∧ w'.cell? ⟨(ad342.add ((x5_2).toNat * 14)).block, (ad342.add ((x5_2).toNat * 14)).off + 3, none⟩ = some (.int .i64 ((rd_T40 l1_1 x5_2).f1)) ∧ w'.cell? ⟨(ad342.add ((x5_2).toNat * 14)).block, (ad342.add ((x5_2).toNat * 14)).off + 4, none⟩ = some (.string ((rd_T40 l1_1 x5_2).f2)) ∧ w'.cell? ⟨(ad342.add ((x5_2).toNat * 14)).block, (ad342.add ((x5_2).toNat * 14)).off + 5, none⟩ = some (.int .i64 ((rd_T40 l1_1 x5_2).f3)) ∧ w'.cell? ⟨(ad342.add ((x5_2).toNat * 14)).block, (ad342.add ((x5_2).toNat * 14)).off + 6, none⟩ = some (.int .i64 ((rd_T40 l1_1 x5_2).f4)) ∧ w'.cell? ⟨(ad342.add ((x5_2).toNat * 14)).block, (ad342.add ((x5_2).toNat * 14)).off + 7, none⟩ = some (.string ((rd_T40 l1_1 x5_2).f5)) ∧ w'.cell? ⟨(ad342.add ((x5_2).toNat * 14)).block, (ad342.add ((x5_2).toNat * 14)).off + 8, none⟩ = some (.int .i64 ((rd_T40 l1_1 x5_2).f6)) ∧ w'.cell? ⟨(ad342.add ((x5_2).toNat * 14)).block, (ad342.add ((x5_2).toNat * 14)).off + 9, none⟩ = some (.int .i64 ((rd_T40 l1_1 x5_2).f7.f0)) ∧ w'.cell? ⟨(ad342.add ((x5_2).toNat * 14)).block, (ad342.add ((x5_2).toNat * 14)).off + 10, none⟩ = some (.int .i64 ((rd_T40 l1_1 x5_2).f7.f1)) ∧ w'.cell? ⟨(ad342.add ((x5_2).toNat * 14)).block, (ad342.add ((x5_2).toNat * 14)).off + 11, none⟩ = some (.int .i64 ((rd_T40 l1_1 x5_2).f7.f2)) ∧ w'.cell? ⟨(ad342.add ((x5_2).toNat * 14)).block, (ad342.add ((x5_2).toNat * 14)).off + 12, none⟩ = some (.slice A342_12 ((rd_T40 l1_1 x5_2).f8).length c342_12) ∧ w'.cell? ⟨(ad342.add ((x5_2).toNat * 14)).block, (ad342.add ((x5_2).toNat * 14)).off + 13, none⟩ = some (.slice A342_13 ((rd_T40 l1_1 x5_2).f9).length c342_13)) (ds := []) (bf_ 12 0) (by kernel_rfl) rfl rfl ⟨(blk_cell BK339.out 0).trans rfl, (blk_cell BK339.out 1).trans rfl, (blk_cell BK340.out 0).trans rfl, (blk_cell BK340.out 1).trans rfl, ((HB.out.cell (World.block_lt_of_cell? w _ hw341_0)).trans hw341_0), ((HB.out.cell (World.block_lt_of_cell? w _ hw341_1)).trans hw341_1), ((HB.out.cell (World.block_lt_of_cell? w _ hw341_2)).trans hw341_2), ((HB.out.cell (World.block_lt_of_cell? w _ hw341_3)).trans hw341_3), ((HB.out.cell (World.block_lt_of_cell? w _ hw341_4)).trans hw341_4), ((HB.out.cell (World.block_lt_of_cell? w _ hw341_5)).trans hw341_5), ((HB.out.cell (World.block_lt_of_cell? w _ hw341_6)).trans hw341_6), ((HB.out.cell (World.block_lt_of_cell? w _ hw341_7)).trans hw341_7), ((HB.out.cell (World.block_lt_of_cell? w _ hw341_8)).trans hw341_8), ((HB.out.cell (World.block_lt_of_cell? w _ hw341_9)).trans hw341_9), ((HB.out.cell (World.block_lt_of_cell? w _ hw341_10)).trans hw341_10), ((HB.out.cell (World.block_lt_of_cell? w _ hw341_11)).trans hw341_11), ((HB.out.cell (World.block_lt_of_cell? w _ hw341_12)).trans hw341_12), ((HB.out.cell (World.block_lt_of_cell? w _ hw341_13)).trans hw341_13), ((HB.out.cell (World.block_lt_of_cell? w _ hw342_0)).trans hw342_0), ((HB.out.cell (World.block_lt_of_cell? w _ hw342_1)).trans hw342_1), ((HB.out.cell (World.block_lt_of_cell? w _ hw342_2)).trans hw342_2), ((HB.out.cell (World.block_lt_of_cell? w _ hw342_3)).trans hw342_3), ((HB.out.cell (World.block_lt_of_cell? w _ hw342_4)).trans hw342_4), ((HB.out.cell (World.block_lt_of_cell? w _ hw342_5)).trans hw342_5), ((HB.out.cell (World.block_lt_of_cell? w _ hw342_6)).trans hw342_6), ((HB.out.cell (World.block_lt_of_cell? w _ hw342_7)).trans hw342_7), ((HB.out.cell (World.block_lt_of_cell? w _ hw342_8)).trans hw342_8), ((HB.out.cell (World.block_lt_of_cell? w _ hw342_9)).trans hw342_9), ((HB.out.cell (World.block_lt_of_cell? w _ hw342_10)).trans hw342_10), ((HB.out.cell (World.block_lt_of_cell? w _ hw342_11)).trans hw342_11), ((HB.out.cell (World.block_lt_of_cell? w _ hw342_12)).trans hw342_12), ((HB.out.cell (World.block_lt_of_cell? w _ hw342_13)).trans hw342_13)⟩ (fun hHeld => ?_); refine with_tabW computusref23_Same.tab6 computusref23_Same.bits6 (fun HT_ HW_ => ?_)
      generalize wr.drew = w25 at BK339 BK340 HB HR341_12 HR341_13 HR342_12 HR342_13 hx341_0 hx341_1 hx341_10 hx341_11 hx341_12 hx341_13 hx341_2 hx341_3 hx341_4 hx341_5 hx341_6 hx341_7 hx341_8 hx341_9 hx342_0 hx342_1 hx342_10 hx342_11 hx342_12 hx342_13 hx342_2 hx342_3 hx342_4 hx342_5 hx342_6 hx342_7 hx342_8 hx342_9 hHeld ⊢
      refine pu_ 0 (some 27) (bf_ 12 1) HT_.out ?_
      refine pu_ 2 (some 29) (bf_ 12 5) HT_.out ?_
      refine pu_ 5 (some 32) (bf_ 12 37) HT_.out ?_
      refine pu_ 7 (some 34) (bf_ 12 165) HT_.out ?_
      refine ta_ 1 (some 28) (bf_ 12 167) HT_.out HW_.out hHeld ?_
      refine pu_ 3 (some 30) (bf_ 12 175) HT_.out ?_
      refine ta_ 4 (some 31) (bf_ 12 191) HT_.out HW_.out hHeld ?_
      refine ta_ 6 (some 33) (bf_ 12 255) HT_.out HW_.out hHeld ?_
      refine pu_ 8 (some 35) (bf_ 12 511) HT_.out ?_
      refine ta_ 9 (some 36) (bf_ 12 1023) HT_.out HW_.out hHeld ?_
      refine one_ (i := 10) (N := some 37) (bf_ 12 2047) rfl rfl (one_of HT_.out (by kernel_rfl)) (by decide) (fun K hK => ?_)
      refine goes_ Tryd.func18 (by kernel_rfl) rfl #[.agg #[.int .i64 ((rd_T40 l0_1 x5_2).f0.f0), .int .i64 ((rd_T40 l0_1 x5_2).f0.f1), .int .i64 ((rd_T40 l0_1 x5_2).f0.f2), .int .i64 ((rd_T40 l0_1 x5_2).f1), .string ((rd_T40 l0_1 x5_2).f2), .int .i64 ((rd_T40 l0_1 x5_2).f3), .int .i64 ((rd_T40 l0_1 x5_2).f4), .string ((rd_T40 l0_1 x5_2).f5), .int .i64 ((rd_T40 l0_1 x5_2).f6), .int .i64 ((rd_T40 l0_1 x5_2).f7.f0), .int .i64 ((rd_T40 l0_1 x5_2).f7.f1), .int .i64 ((rd_T40 l0_1 x5_2).f7.f2), .slice A341_12 ((rd_T40 l0_1 x5_2).f8).length c341_12, .slice A341_13 ((rd_T40 l0_1 x5_2).f9).length c341_13], .agg #[.int .i64 ((rd_T40 l1_1 x5_2).f0.f0), .int .i64 ((rd_T40 l1_1 x5_2).f0.f1), .int .i64 ((rd_T40 l1_1 x5_2).f0.f2), .int .i64 ((rd_T40 l1_1 x5_2).f1), .string ((rd_T40 l1_1 x5_2).f2), .int .i64 ((rd_T40 l1_1 x5_2).f3), .int .i64 ((rd_T40 l1_1 x5_2).f4), .string ((rd_T40 l1_1 x5_2).f5), .int .i64 ((rd_T40 l1_1 x5_2).f6), .int .i64 ((rd_T40 l1_1 x5_2).f7.f0), .int .i64 ((rd_T40 l1_1 x5_2).f7.f1), .int .i64 ((rd_T40 l1_1 x5_2).f7.f2), .slice A342_12 ((rd_T40 l1_1 x5_2).f8).length c342_12, .slice A342_13 ((rd_T40 l1_1 x5_2).f9).length c342_13]] (by rfl) rfl rfl (by (try simp only [List.map_toArray, List.map_cons, List.map_nil]); first | done | rfl | (simp only [List.length_drop, List.length_take]; rfl)) ?_
      with_reducible refine (computusref23_SameEntry.calls k2 ((rd_T40 l0_1 x5_2).f0.f0) ((rd_T40 l0_1 x5_2).f0.f1) ((rd_T40 l0_1 x5_2).f0.f2) ((rd_T40 l0_1 x5_2).f1) ((rd_T40 l0_1 x5_2).f2) ((rd_T40 l0_1 x5_2).f3) ((rd_T40 l0_1 x5_2).f4) ((rd_T40 l0_1 x5_2).f5) ((rd_T40 l0_1 x5_2).f6) ((rd_T40 l0_1 x5_2).f7.f0) ((rd_T40 l0_1 x5_2).f7.f1) ((rd_T40 l0_1 x5_2).f7.f2) _ _ ((rd_T40 l0_1 x5_2).f8) _ _ ((rd_T40 l0_1 x5_2).f9) ((rd_T40 l1_1 x5_2).f0.f0) ((rd_T40 l1_1 x5_2).f0.f1) ((rd_T40 l1_1 x5_2).f0.f2) ((rd_T40 l1_1 x5_2).f1) ((rd_T40 l1_1 x5_2).f2) ((rd_T40 l1_1 x5_2).f3) ((rd_T40 l1_1 x5_2).f4) ((rd_T40 l1_1 x5_2).f5) ((rd_T40 l1_1 x5_2).f6) ((rd_T40 l1_1 x5_2).f7.f0) ((rd_T40 l1_1 x5_2).f7.f1) ((rd_T40 l1_1 x5_2).f7.f2) _ _ ((rd_T40 l1_1 x5_2).f8) _ _ ((rd_T40 l1_1 x5_2).f9) false _ ?side1 ?side2 ?side3 ?side4 ?side5 ?side6 ?side7 ?side8 A17.out).mono ?_
      (case side1 => exact ck_ (Kd.C_below HR341_12.out HB.out))
      (case side2 => exact HC341_12.out)
      (case side3 => exact ck_ (Kd.C_below HR341_13.out HB.out))
      (case side4 => exact HC341_13.out)
      (case side5 => exact ck_ (Kd.C_below HR342_12.out HB.out))
      (case side6 => exact HC342_12.out)
      (case side7 => exact ck_ (Kd.C_below HR342_13.out HB.out))
      (case side8 => exact HC342_13.out)
      rintro e w26 ⟨rfl, hb⟩
      refine ⟨_, rfl, ?_⟩
      replace BK339 := bw_ BK339 hb
      replace BK340 := bw_ BK340 hb
      replace HB := bt_ hb
      (try clear hb)
      (try clear hb2)
      (try clear hk)
      (try clear hi)
      refine hK.out _ _ (by first | exact ⟨(blk_cell BK339.out 0).trans rfl, (blk_cell BK339.out 1).trans rfl, (blk_cell BK340.out 0).trans rfl, (blk_cell BK340.out 1).trans rfl, ((HB.out.cell (World.block_lt_of_cell? w _ hw341_0)).trans hw341_0), ((HB.out.cell (World.block_lt_of_cell? w _ hw341_1)).trans hw341_1), ((HB.out.cell (World.block_lt_of_cell? w _ hw341_2)).trans hw341_2), ((HB.out.cell (World.block_lt_of_cell? w _ hw341_3)).trans hw341_3), ((HB.out.cell (World.block_lt_of_cell? w _ hw341_4)).trans hw341_4), ((HB.out.cell (World.block_lt_of_cell? w _ hw341_5)).trans hw341_5), ((HB.out.cell (World.block_lt_of_cell? w _ hw341_6)).trans hw341_6), ((HB.out.cell (World.block_lt_of_cell? w _ hw341_7)).trans hw341_7), ((HB.out.cell (World.block_lt_of_cell? w _ hw341_8)).trans hw341_8), ((HB.out.cell (World.block_lt_of_cell? w _ hw341_9)).trans hw341_9), ((HB.out.cell (World.block_lt_of_cell? w _ hw341_10)).trans hw341_10), ((HB.out.cell (World.block_lt_of_cell? w _ hw341_11)).trans hw341_11), ((HB.out.cell (World.block_lt_of_cell? w _ hw341_12)).trans hw341_12), ((HB.out.cell (World.block_lt_of_cell? w _ hw341_13)).trans hw341_13), ((HB.out.cell (World.block_lt_of_cell? w _ hw342_0)).trans hw342_0), ((HB.out.cell (World.block_lt_of_cell? w _ hw342_1)).trans hw342_1), ((HB.out.cell (World.block_lt_of_cell? w _ hw342_2)).trans hw342_2), ((HB.out.cell (World.block_lt_of_cell? w _ hw342_3)).trans hw342_3), ((HB.out.cell (World.block_lt_of_cell? w _ hw342_4)).trans hw342_4), ((HB.out.cell (World.block_lt_of_cell? w _ hw342_5)).trans hw342_5), ((HB.out.cell (World.block_lt_of_cell? w _ hw342_6)).trans hw342_6), ((HB.out.cell (World.block_lt_of_cell? w _ hw342_7)).trans hw342_7), ((HB.out.cell (World.block_lt_of_cell? w _ hw342_8)).trans hw342_8), ((HB.out.cell (World.block_lt_of_cell? w _ hw342_9)).trans hw342_9), ((HB.out.cell (World.block_lt_of_cell? w _ hw342_10)).trans hw342_10), ((HB.out.cell (World.block_lt_of_cell? w _ hw342_11)).trans hw342_11), ((HB.out.cell (World.block_lt_of_cell? w _ hw342_12)).trans hw342_12), ((HB.out.cell (World.block_lt_of_cell? w _ hw342_13)).trans hw342_13)⟩ | exact hHeld) (fun hHeld => ?_)
      clear hK K
      refine norm_ (a' := ?_) ?_ ?_
      rotate_left
      ·show Act.put _ (some 37) _ = _
       simp only [Act.put, sA_, sZ_, sS_, i64_w, i32_w]
       rfl
      refine pu_ 11 (some 38) (bf_ 12 4095) HT_.out ?_
      refine done_ (done_of HT_.out (by kernel_rfl)) ?_
      try go_wp2
      go_ret
      exact rt_
     subst c18
     replace H := it_ H
     have H' := am_ H
     clear H
     have hnb19 := NB339_340.out
     have hnc19 := NB340_339.out
     obtain ⟨hcz20_0, hcz20_1⟩ := cz2_ BK339.out
     obtain ⟨hfz20_0, hfz20_1⟩ := fz2_ BK339.out
     try go_wp2
     replace BK339 := am_ (blk_drew BK339.out)
     replace BK340 := am_ (blk_drew BK340.out)
     replace HB := am_ (below_drew1 HB.out)
     have p341 : 0 ≤ (x5_2 : Int) := of_decide_eq_true as_
     have q341 : x5_2 < (l0_1.length : Int) := of_decide_eq_true as_
     obtain ⟨ad341, A341_12, c341_12, A341_13, c341_13, e341, hx341_0, hx341_1, hx341_2, hx341_3, hx341_4, hx341_5, hx341_6, hx341_7, hx341_8, hx341_9, hx341_10, hx341_11, hx341_12, hx341_13, hl341_12, hi341_12, hl341_13, hi341_13⟩ := at_T40 HR0_1.out x5_2 p341 q341
     have hw341_13 := hx341_13
     have hw341_12 := hx341_12
     have hw341_11 := hx341_11
     have hw341_10 := hx341_10
     have hw341_9 := hx341_9
     have hw341_8 := hx341_8
     have hw341_7 := hx341_7
     have hw341_6 := hx341_6
     have hw341_5 := hx341_5
     have hw341_4 := hx341_4
     have hw341_3 := hx341_3
     have hw341_2 := hx341_2
     have hw341_1 := hx341_1
     have hw341_0 := hx341_0
     cases e341
     replace hx341_0 := cm_ HB.out hx341_0
     replace hx341_1 := cm_ HB.out hx341_1
     replace hx341_2 := cm_ HB.out hx341_2
     replace hx341_3 := cm_ HB.out hx341_3
     replace hx341_4 := cm_ HB.out hx341_4
     replace hx341_5 := cm_ HB.out hx341_5
     replace hx341_6 := cm_ HB.out hx341_6
     replace hx341_7 := cm_ HB.out hx341_7
     replace hx341_8 := cm_ HB.out hx341_8
     replace hx341_9 := cm_ HB.out hx341_9
     replace hx341_10 := cm_ HB.out hx341_10
     replace hx341_11 := cm_ HB.out hx341_11
     replace hx341_12 := cm_ HB.out hx341_12
     replace hx341_13 := cm_ HB.out hx341_13
     have HR341_12 := am_ hi341_12
     have HC341_12 := am_ hl341_12
     clear hi341_12 hl341_12
     have HR341_13 := am_ hi341_13
     have HC341_13 := am_ hl341_13
     clear hi341_13 hl341_13
     replace p341 := eq_true p341
     replace q341 := eq_true q341
     have p342 : 0 ≤ (x5_2 : Int) := of_decide_eq_true as_
     have q342 : x5_2 < (l1_1.length : Int) := of_decide_eq_true as_
     obtain ⟨ad342, A342_12, c342_12, A342_13, c342_13, e342, hx342_0, hx342_1, hx342_2, hx342_3, hx342_4, hx342_5, hx342_6, hx342_7, hx342_8, hx342_9, hx342_10, hx342_11, hx342_12, hx342_13, hl342_12, hi342_12, hl342_13, hi342_13⟩ := at_T40 HR1_1.out x5_2 p342 q342
     have hw342_13 := hx342_13
     have hw342_12 := hx342_12
     have hw342_11 := hx342_11
     have hw342_10 := hx342_10
     have hw342_9 := hx342_9
     have hw342_8 := hx342_8
     have hw342_7 := hx342_7
     have hw342_6 := hx342_6
     have hw342_5 := hx342_5
     have hw342_4 := hx342_4
     have hw342_3 := hx342_3
     have hw342_2 := hx342_2
     have hw342_1 := hx342_1
     have hw342_0 := hx342_0
     cases e342
     replace hx342_0 := cm_ HB.out hx342_0
     replace hx342_1 := cm_ HB.out hx342_1
     replace hx342_2 := cm_ HB.out hx342_2
     replace hx342_3 := cm_ HB.out hx342_3
     replace hx342_4 := cm_ HB.out hx342_4
     replace hx342_5 := cm_ HB.out hx342_5
     replace hx342_6 := cm_ HB.out hx342_6
     replace hx342_7 := cm_ HB.out hx342_7
     replace hx342_8 := cm_ HB.out hx342_8
     replace hx342_9 := cm_ HB.out hx342_9
     replace hx342_10 := cm_ HB.out hx342_10
     replace hx342_11 := cm_ HB.out hx342_11
     replace hx342_12 := cm_ HB.out hx342_12
     replace hx342_13 := cm_ HB.out hx342_13
     have HR342_12 := am_ hi342_12
     have HC342_12 := am_ hl342_12
     clear hi342_12 hl342_12
     have HR342_13 := am_ hi342_13
     have HC342_13 := am_ hl342_13
     clear hi342_13 hl342_13
     replace p342 := eq_true p342
     replace q342 := eq_true q342
     refine start_ (n := 12) (S := fun w' => w'.cell? ⟨gb339, 0, none⟩ = some (.int .i64 a0_0) ∧ w'.cell? ⟨gb339, 1, none⟩ = some (.slice (some ad341) l0_1.length c0_1) ∧ w'.cell? ⟨gb340, 0, none⟩ = some (.int .i64 a1_0) ∧ w'.cell? ⟨gb340, 1, none⟩ = some (.slice (some ad342) l1_1.length c1_1) ∧ w'.cell? (ad341.add ((x5_2).toNat * 14)) = some (.int .i64 ((rd_T40 l0_1 x5_2).f0.f0)) ∧ w'.cell? ⟨(ad341.add ((x5_2).toNat * 14)).block, (ad341.add ((x5_2).toNat * 14)).off + 1, none⟩ = some (.int .i64 ((rd_T40 l0_1 x5_2).f0.f1)) ∧ w'.cell? ⟨(ad341.add ((x5_2).toNat * 14)).block, (ad341.add ((x5_2).toNat * 14)).off + 2, none⟩ = some (.int .i64 ((rd_T40 l0_1 x5_2).f0.f2)) ∧ w'.cell? ⟨(ad341.add ((x5_2).toNat * 14)).block, (ad341.add ((x5_2).toNat * 14)).off + 3, none⟩ = some (.int .i64 ((rd_T40 l0_1 x5_2).f1)) ∧ w'.cell? ⟨(ad341.add ((x5_2).toNat * 14)).block, (ad341.add ((x5_2).toNat * 14)).off + 4, none⟩ = some (.string ((rd_T40 l0_1 x5_2).f2)) ∧ w'.cell? ⟨(ad341.add ((x5_2).toNat * 14)).block, (ad341.add ((x5_2).toNat * 14)).off + 5, none⟩ = some (.int .i64 ((rd_T40 l0_1 x5_2).f3)) ∧ w'.cell? ⟨(ad341.add ((x5_2).toNat * 14)).block, (ad341.add ((x5_2).toNat * 14)).off + 6, none⟩ = some (.int .i64 ((rd_T40 l0_1 x5_2).f4)) ∧ w'.cell? ⟨(ad341.add ((x5_2).toNat * 14)).block, (ad341.add ((x5_2).toNat * 14)).off + 7, none⟩ = some (.string ((rd_T40 l0_1 x5_2).f5)) ∧ w'.cell? ⟨(ad341.add ((x5_2).toNat * 14)).block, (ad341.add ((x5_2).toNat * 14)).off + 8, none⟩ = some (.int .i64 ((rd_T40 l0_1 x5_2).f6)) ∧ w'.cell? ⟨(ad341.add ((x5_2).toNat * 14)).block, (ad341.add ((x5_2).toNat * 14)).off + 9, none⟩ = some (.int .i64 ((rd_T40 l0_1 x5_2).f7.f0)) ∧ w'.cell? ⟨(ad341.add ((x5_2).toNat * 14)).block, (ad341.add ((x5_2).toNat * 14)).off + 10, none⟩ = some (.int .i64 ((rd_T40 l0_1 x5_2).f7.f1)) ∧ w'.cell? ⟨(ad341.add ((x5_2).toNat * 14)).block, (ad341.add ((x5_2).toNat * 14)).off + 11, none⟩ = some (.int .i64 ((rd_T40 l0_1 x5_2).f7.f2)) ∧ w'.cell? ⟨(ad341.add ((x5_2).toNat * 14)).block, (ad341.add ((x5_2).toNat * 14)).off + 12, none⟩ = some (.slice A341_12 ((rd_T40 l0_1 x5_2).f8).length c341_12) ∧ w'.cell? ⟨(ad341.add ((x5_2).toNat * 14)).block, (ad341.add ((x5_2).toNat * 14)).off + 13, none⟩ = some (.slice A341_13 ((rd_T40 l0_1 x5_2).f9).length c341_13) ∧ w'.cell? (ad342.add ((x5_2).toNat * 14)) = some (.int .i64 ((rd_T40 l1_1 x5_2).f0.f0)) ∧ w'.cell? ⟨(ad342.add ((x5_2).toNat * 14)).block, (ad342.add ((x5_2).toNat * 14)).off + 1, none⟩ = some (.int .i64 ((rd_T40 l1_1 x5_2).f0.f1)) ∧ w'.cell? ⟨(ad342.add ((x5_2).toNat * 14)).block, (ad342.add ((x5_2).toNat * 14)).off + 2, none⟩ = some (.int .i64 ((rd_T40 l1_1 x5_2).f0.f2)) ∧ w'.cell? ⟨(ad342.add ((x5_2).toNat * 14)).block, (ad342.add ((x5_2).toNat * 14)).off + 3, none⟩ = some (.int .i64 ((rd_T40 l1_1 x5_2).f1)) ∧ w'.cell? ⟨(ad342.add ((x5_2).toNat * 14)).block, (ad342.add ((x5_2).toNat * 14)).off + 4, none⟩ = some (.string ((rd_T40 l1_1 x5_2).f2)) ∧ w'.cell? ⟨(ad342.add ((x5_2).toNat * 14)).block, (ad342.add ((x5_2).toNat * 14)).off + 5, none⟩ = some (.int .i64 ((rd_T40 l1_1 x5_2).f3)) ∧ w'.cell? ⟨(ad342.add ((x5_2).toNat * 14)).block, (ad342.add ((x5_2).toNat * 14)).off + 6, none⟩ = some (.int .i64 ((rd_T40 l1_1 x5_2).f4)) ∧ w'.cell? ⟨(ad342.add ((x5_2).toNat * 14)).block, (ad342.add ((x5_2).toNat * 14)).off + 7, none⟩ = some (.string ((rd_T40 l1_1 x5_2).f5)) ∧ w'.cell? ⟨(ad342.add ((x5_2).toNat * 14)).block, (ad342.add ((x5_2).toNat * 14)).off + 8, none⟩ = some (.int .i64 ((rd_T40 l1_1 x5_2).f6)) ∧ w'.cell? ⟨(ad342.add ((x5_2).toNat * 14)).block, (ad342.add ((x5_2).toNat * 14)).off + 9, none⟩ = some (.int .i64 ((rd_T40 l1_1 x5_2).f7.f0)) ∧ w'.cell? ⟨(ad342.add ((x5_2).toNat * 14)).block, (ad342.add ((x5_2).toNat * 14)).off + 10, none⟩ = some (.int .i64 ((rd_T40 l1_1 x5_2).f7.f1)) ∧ w'.cell? ⟨(ad342.add ((x5_2).toNat * 14)).block, (ad342.add ((x5_2).toNat * 14)).off + 11, none⟩ = some (.int .i64 ((rd_T40 l1_1 x5_2).f7.f2)) ∧ w'.cell? ⟨(ad342.add ((x5_2).toNat * 14)).block, (ad342.add ((x5_2).toNat * 14)).off + 12, none⟩ = some (.slice A342_12 ((rd_T40 l1_1 x5_2).f8).length c342_12) ∧ w'.cell? ⟨(ad342.add ((x5_2).toNat * 14)).block, (ad342.add ((x5_2).toNat * 14)).off + 13, none⟩ = some (.slice A342_13 ((rd_T40 l1_1 x5_2).f9).length c342_13)) (ds := []) (bf_ 12 0) (by kernel_rfl) rfl rfl ⟨(blk_cell BK339.out 0).trans rfl, (blk_cell BK339.out 1).trans rfl, (blk_cell BK340.out 0).trans rfl, (blk_cell BK340.out 1).trans rfl, ((HB.out.cell (World.block_lt_of_cell? w _ hw341_0)).trans hw341_0), ((HB.out.cell (World.block_lt_of_cell? w _ hw341_1)).trans hw341_1), ((HB.out.cell (World.block_lt_of_cell? w _ hw341_2)).trans hw341_2), ((HB.out.cell (World.block_lt_of_cell? w _ hw341_3)).trans hw341_3), ((HB.out.cell (World.block_lt_of_cell? w _ hw341_4)).trans hw341_4), ((HB.out.cell (World.block_lt_of_cell? w _ hw341_5)).trans hw341_5), ((HB.out.cell (World.block_lt_of_cell? w _ hw341_6)).trans hw341_6), ((HB.out.cell (World.block_lt_of_cell? w _ hw341_7)).trans hw341_7), ((HB.out.cell (World.block_lt_of_cell? w _ hw341_8)).trans hw341_8), ((HB.out.cell (World.block_lt_of_cell? w _ hw341_9)).trans hw341_9), ((HB.out.cell (World.block_lt_of_cell? w _ hw341_10)).trans hw341_10), ((HB.out.cell (World.block_lt_of_cell? w _ hw341_11)).trans hw341_11), ((HB.out.cell (World.block_lt_of_cell? w _ hw341_12)).trans hw341_12), ((HB.out.cell (World.block_lt_of_cell? w _ hw341_13)).trans hw341_13), ((HB.out.cell (World.block_lt_of_cell? w _ hw342_0)).trans hw342_0), ((HB.out.cell (World.block_lt_of_cell? w _ hw342_1)).trans hw342_1), ((HB.out.cell (World.block_lt_of_cell? w _ hw342_2)).trans hw342_2), ((HB.out.cell (World.block_lt_of_cell? w _ hw342_3)).trans hw342_3), ((HB.out.cell (World.block_lt_of_cell? w _ hw342_4)).trans hw342_4), ((HB.out.cell (World.block_lt_of_cell? w _ hw342_5)).trans hw342_5), ((HB.out.cell (World.block_lt_of_cell? w _ hw342_6)).trans hw342_6), ((HB.out.cell (World.block_lt_of_cell? w _ hw342_7)).trans hw342_7), ((HB.out.cell (World.block_lt_of_cell? w _ hw342_8)).trans hw342_8), ((HB.out.cell (World.block_lt_of_cell? w _ hw342_9)).trans hw342_9), ((HB.out.cell (World.block_lt_of_cell? w _ hw342_10)).trans hw342_10), ((HB.out.cell (World.block_lt_of_cell? w _ hw342_11)).trans hw342_11), ((HB.out.cell (World.block_lt_of_cell? w _ hw342_12)).trans hw342_12), ((HB.out.cell (World.block_lt_of_cell? w _ hw342_13)).trans hw342_13)⟩ (fun hHeld => ?_); refine with_tabW computusref23_Same.tab6 computusref23_Same.bits6 (fun HT_ HW_ => ?_)
     generalize wr.drew = w21 at BK339 BK340 HB HR341_12 HR341_13 HR342_12 HR342_13 hx341_0 hx341_1 hx341_10 hx341_11 hx341_12 hx341_13 hx341_2 hx341_3 hx341_4 hx341_5 hx341_6 hx341_7 hx341_8 hx341_9 hx342_0 hx342_1 hx342_10 hx342_11 hx342_12 hx342_13 hx342_2 hx342_3 hx342_4 hx342_5 hx342_6 hx342_7 hx342_8 hx342_9 hHeld ⊢
     refine pu_ 0 (some 27) (bf_ 12 1) HT_.out ?_
     refine pu_ 2 (some 29) (bf_ 12 5) HT_.out ?_
     refine pu_ 5 (some 32) (bf_ 12 37) HT_.out ?_
     refine pu_ 7 (some 34) (bf_ 12 165) HT_.out ?_
     refine ta_ 1 (some 28) (bf_ 12 167) HT_.out HW_.out hHeld ?_
     refine pu_ 3 (some 30) (bf_ 12 175) HT_.out ?_
     refine ta_ 4 (some 31) (bf_ 12 191) HT_.out HW_.out hHeld ?_
     refine ta_ 6 (some 33) (bf_ 12 255) HT_.out HW_.out hHeld ?_
     refine pu_ 8 (some 35) (bf_ 12 511) HT_.out ?_
     refine ta_ 9 (some 36) (bf_ 12 1023) HT_.out HW_.out hHeld ?_
     refine one_ (i := 10) (N := some 37) (bf_ 12 2047) rfl rfl (one_of HT_.out (by kernel_rfl)) (by decide) (fun K hK => ?_)
     refine goes_ Tryd.func18 (by kernel_rfl) rfl #[.agg #[.int .i64 ((rd_T40 l0_1 x5_2).f0.f0), .int .i64 ((rd_T40 l0_1 x5_2).f0.f1), .int .i64 ((rd_T40 l0_1 x5_2).f0.f2), .int .i64 ((rd_T40 l0_1 x5_2).f1), .string ((rd_T40 l0_1 x5_2).f2), .int .i64 ((rd_T40 l0_1 x5_2).f3), .int .i64 ((rd_T40 l0_1 x5_2).f4), .string ((rd_T40 l0_1 x5_2).f5), .int .i64 ((rd_T40 l0_1 x5_2).f6), .int .i64 ((rd_T40 l0_1 x5_2).f7.f0), .int .i64 ((rd_T40 l0_1 x5_2).f7.f1), .int .i64 ((rd_T40 l0_1 x5_2).f7.f2), .slice A341_12 ((rd_T40 l0_1 x5_2).f8).length c341_12, .slice A341_13 ((rd_T40 l0_1 x5_2).f9).length c341_13], .agg #[.int .i64 ((rd_T40 l1_1 x5_2).f0.f0), .int .i64 ((rd_T40 l1_1 x5_2).f0.f1), .int .i64 ((rd_T40 l1_1 x5_2).f0.f2), .int .i64 ((rd_T40 l1_1 x5_2).f1), .string ((rd_T40 l1_1 x5_2).f2), .int .i64 ((rd_T40 l1_1 x5_2).f3), .int .i64 ((rd_T40 l1_1 x5_2).f4), .string ((rd_T40 l1_1 x5_2).f5), .int .i64 ((rd_T40 l1_1 x5_2).f6), .int .i64 ((rd_T40 l1_1 x5_2).f7.f0), .int .i64 ((rd_T40 l1_1 x5_2).f7.f1), .int .i64 ((rd_T40 l1_1 x5_2).f7.f2), .slice A342_12 ((rd_T40 l1_1 x5_2).f8).length c342_12, .slice A342_13 ((rd_T40 l1_1 x5_2).f9).length c342_13]] (by rfl) rfl rfl (by (try simp only [List.map_toArray, List.map_cons, List.map_nil]); first | done | rfl | (simp only [List.length_drop, List.length_take]; rfl)) ?_
     with_reducible refine (computusref23_SameEntry.calls k2 ((rd_T40 l0_1 x5_2).f0.f0) ((rd_T40 l0_1 x5_2).f0.f1) ((rd_T40 l0_1 x5_2).f0.f2) ((rd_T40 l0_1 x5_2).f1) ((rd_T40 l0_1 x5_2).f2) ((rd_T40 l0_1 x5_2).f3) ((rd_T40 l0_1 x5_2).f4) ((rd_T40 l0_1 x5_2).f5) ((rd_T40 l0_1 x5_2).f6) ((rd_T40 l0_1 x5_2).f7.f0) ((rd_T40 l0_1 x5_2).f7.f1) ((rd_T40 l0_1 x5_2).f7.f2) _ _ ((rd_T40 l0_1 x5_2).f8) _ _ ((rd_T40 l0_1 x5_2).f9) ((rd_T40 l1_1 x5_2).f0.f0) ((rd_T40 l1_1 x5_2).f0.f1) ((rd_T40 l1_1 x5_2).f0.f2) ((rd_T40 l1_1 x5_2).f1) ((rd_T40 l1_1 x5_2).f2) ((rd_T40 l1_1 x5_2).f3) ((rd_T40 l1_1 x5_2).f4) ((rd_T40 l1_1 x5_2).f5) ((rd_T40 l1_1 x5_2).f6) ((rd_T40 l1_1 x5_2).f7.f0) ((rd_T40 l1_1 x5_2).f7.f1) ((rd_T40 l1_1 x5_2).f7.f2) _ _ ((rd_T40 l1_1 x5_2).f8) _ _ ((rd_T40 l1_1 x5_2).f9) true _ ?side1 ?side2 ?side3 ?side4 ?side5 ?side6 ?side7 ?side8 A17.out).mono ?_
     (case side1 => exact ck_ (Kd.C_below HR341_12.out HB.out))
     (case side2 => exact HC341_12.out)
     (case side3 => exact ck_ (Kd.C_below HR341_13.out HB.out))
     (case side4 => exact HC341_13.out)
     (case side5 => exact ck_ (Kd.C_below HR342_12.out HB.out))
     (case side6 => exact HC342_12.out)
     (case side7 => exact ck_ (Kd.C_below HR342_13.out HB.out))
     (case side8 => exact HC342_13.out)
     rintro e w22 ⟨rfl, hb⟩
     refine ⟨_, rfl, ?_⟩
     replace BK339 := bw_ BK339 hb
     replace BK340 := bw_ BK340 hb
     replace HB := bt_ hb
     (try clear hb)
     (try clear hb2)
     (try clear hk)
     (try clear hi)
     refine hK.out _ _ (by first | exact ⟨(blk_cell BK339.out 0).trans rfl, (blk_cell BK339.out 1).trans rfl, (blk_cell BK340.out 0).trans rfl, (blk_cell BK340.out 1).trans rfl, ((HB.out.cell (World.block_lt_of_cell? w _ hw341_0)).trans hw341_0), ((HB.out.cell (World.block_lt_of_cell? w _ hw341_1)).trans hw341_1), ((HB.out.cell (World.block_lt_of_cell? w _ hw341_2)).trans hw341_2), ((HB.out.cell (World.block_lt_of_cell? w _ hw341_3)).trans hw341_3), ((HB.out.cell (World.block_lt_of_cell? w _ hw341_4)).trans hw341_4), ((HB.out.cell (World.block_lt_of_cell? w _ hw341_5)).trans hw341_5), ((HB.out.cell (World.block_lt_of_cell? w _ hw341_6)).trans hw341_6), ((HB.out.cell (World.block_lt_of_cell? w _ hw341_7)).trans hw341_7), ((HB.out.cell (World.block_lt_of_cell? w _ hw341_8)).trans hw341_8), ((HB.out.cell (World.block_lt_of_cell? w _ hw341_9)).trans hw341_9), ((HB.out.cell (World.block_lt_of_cell? w _ hw341_10)).trans hw341_10), ((HB.out.cell (World.block_lt_of_cell? w _ hw341_11)).trans hw341_11), ((HB.out.cell (World.block_lt_of_cell? w _ hw341_12)).trans hw341_12), ((HB.out.cell (World.block_lt_of_cell? w _ hw341_13)).trans hw341_13), ((HB.out.cell (World.block_lt_of_cell? w _ hw342_0)).trans hw342_0), ((HB.out.cell (World.block_lt_of_cell? w _ hw342_1)).trans hw342_1), ((HB.out.cell (World.block_lt_of_cell? w _ hw342_2)).trans hw342_2), ((HB.out.cell (World.block_lt_of_cell? w _ hw342_3)).trans hw342_3), ((HB.out.cell (World.block_lt_of_cell? w _ hw342_4)).trans hw342_4), ((HB.out.cell (World.block_lt_of_cell? w _ hw342_5)).trans hw342_5), ((HB.out.cell (World.block_lt_of_cell? w _ hw342_6)).trans hw342_6), ((HB.out.cell (World.block_lt_of_cell? w _ hw342_7)).trans hw342_7), ((HB.out.cell (World.block_lt_of_cell? w _ hw342_8)).trans hw342_8), ((HB.out.cell (World.block_lt_of_cell? w _ hw342_9)).trans hw342_9), ((HB.out.cell (World.block_lt_of_cell? w _ hw342_10)).trans hw342_10), ((HB.out.cell (World.block_lt_of_cell? w _ hw342_11)).trans hw342_11), ((HB.out.cell (World.block_lt_of_cell? w _ hw342_12)).trans hw342_12), ((HB.out.cell (World.block_lt_of_cell? w _ hw342_13)).trans hw342_13)⟩ | exact hHeld) (fun hHeld => ?_)
     clear hK K
     refine norm_ (a' := ?_) ?_ ?_
     rotate_left
     ·show Act.put _ (some 37) _ = _
      simp only [Act.put, sA_, sZ_, sS_, i64_w, i32_w]
      rfl
     refine pu_ 11 (some 38) (bf_ 12 4095) HT_.out ?_
     refine done_ (done_of HT_.out (by kernel_rfl)) ?_
     try go_wp2
     go_roundg k2
     case measure => have := HJ2.out; have := HK2.out; omega
     case rel => exact ⟨(wrap64 (x5_2 + 1)), rs_, H', ⟨by have := HJ2.out; have := HK2.out; omega⟩, ⟨bk_ BK339.out⟩, ⟨bk_ BK340.out⟩, ⟨bh_⟩⟩



section
attribute [local go_sem high] eqA37
end

end Go.Proofs.YtlchefonlfokgaaDoor.Q
end
