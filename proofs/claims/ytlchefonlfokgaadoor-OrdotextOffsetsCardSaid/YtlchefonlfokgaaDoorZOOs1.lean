/- What is proved: what the statement OrdotextOffsetsSaid needs, part 2 of 12; the last part proves the statement. No condition. -/
import Derived.Test.YtlchefonlfokgaaDoorZOOs0
import Derived.Test.YtlchefonlfokgaaDoorProg
set_option maxHeartbeats 8000000
set_option maxRecDepth 100000
set_option linter.unusedVariables false
set_option linter.unusedSimpArgs false
section
namespace Go.Proofs.YtlchefonlfokgaaDoor.Q
open Go.RowKit Go.Proofs.YtlchefonlfokgaaDoorW.PrintWords Go.Proofs.YtlchefonlfokgaaDoorW.PrintLast Go.Proofs.YtlchefonlfokgaaDoorW.PrintMore
attribute [local go_sem] max2_int min2_int max_two min_two max_three min_three max_four min_four
def errW : Option Int → Value
 | none => .nilIface
 | some c => .iface 0 (.int .i64 c)
theorem errW_none : errW none = .nilIface := rfl
theorem errW_some (c : Int) : errW (some c) = .iface 0 (.int .i64 c) := rfl
theorem info9 : (Tryd.prog.info? 9).map (fun i => (i.zero, i.size, i.bytes)) = some (some (.string ⟨#[]⟩), 1, 16) := by kernel_rfl
theorem info40 : (Tryd.prog.info? 40).map (fun i => (i.zero, i.size, i.bytes)) = some (some (.agg #[(.int .i64 0), (.int .i64 0), (.int .i64 0), (.int .i64 0), (.string ⟨#[]⟩), (.int .i64 0), (.int .i64 0), (.string ⟨#[]⟩), (.int .i64 0), (.int .i64 0), (.int .i64 0), (.int .i64 0), (.slice none 0 0), (.slice none 0 0)]), 14, 160) := by kernel_rfl
-- the values' own types
structure S37 where
 f0 : Int
 f1 : Int
 f2 : Int
def z37 : S37 := ⟨(0 : Int), (0 : Int), (0 : Int)⟩
def k37 : Kd S37 := Kd.iso (Kd.pair (Kd.int .i64) (Kd.pair (Kd.int .i64) (Kd.int .i64))) (fun x : S37 => (x.f0, x.f1, x.f2))
theorem k37_open {w : World} {x : S37} {cs : List Value} (h : k37.K w x cs) : cs = [.int .i64 x.f0, .int .i64 x.f1, .int .i64 x.f2] := by
 obtain ⟨_, _, rfl, rfl, ⟨_, _, rfl, rfl, rfl⟩⟩ := h
 exact rfl
theorem k37_openM {w : World} {base : Nat} {ok : Nat → Prop} {x : S37} {cs : List Value} (h : k37.M w base ok x cs) : cs = [.int .i64 x.f0, .int .i64 x.f1, .int .i64 x.f2] := by
 obtain ⟨_, _, rfl, rfl, ⟨_, _, rfl, rfl, rfl⟩⟩ := h
 exact rfl
theorem k37_mkM (w : World) (base : Nat) (ok : Nat → Prop) (x : S37)  : k37.M w base ok x [.int .i64 x.f0, .int .i64 x.f1, .int .i64 x.f2] := ⟨[.int .i64 x.f0], [.int .i64 x.f1, .int .i64 x.f2], rfl, rfl, ⟨[.int .i64 x.f1], [.int .i64 x.f2], rfl, rfl, rfl⟩⟩
structure S40 where
 f0 : S37
 f1 : Int
 f2 : ByteArray
 f3 : Int
 f4 : Int
 f5 : ByteArray
 f6 : Int
 f7 : S37
 f8 : (List ByteArray)
 f9 : (List ByteArray)
def z40 : S40 := ⟨z37, (0 : Int), (⟨#[]⟩ : ByteArray), (0 : Int), (0 : Int), (⟨#[]⟩ : ByteArray), (0 : Int), z37, ([] : List ByteArray), ([] : List ByteArray)⟩
def k40 : Kd S40 := Kd.iso (Kd.pair k37 (Kd.pair (Kd.int .i64) (Kd.pair Kd.string (Kd.pair (Kd.int .i64) (Kd.pair (Kd.int .i64) (Kd.pair Kd.string (Kd.pair (Kd.int .i64) (Kd.pair k37 (Kd.pair (Kd.slice 9 Kd.string) (Kd.slice 9 Kd.string)))))))))) (fun x : S40 => (x.f0, x.f1, x.f2, x.f3, x.f4, x.f5, x.f6, x.f7, x.f8, x.f9))
theorem k40_open {w : World} {x : S40} {cs : List Value} (h : k40.K w x cs) : ∃ A12 c12 A13 c13, cs = [.int .i64 x.f0.f0, .int .i64 x.f0.f1, .int .i64 x.f0.f2, .int .i64 x.f1, .string x.f2, .int .i64 x.f3, .int .i64 x.f4, .string x.f5, .int .i64 x.f6, .int .i64 x.f7.f0, .int .i64 x.f7.f1, .int .i64 x.f7.f2, .slice A12 x.f8.length c12, .slice A13 x.f9.length c13] ∧ x.f8.length ≤ c12 ∧ Kd.string.C w A12 x.f8.length x.f8 ∧ x.f9.length ≤ c13 ∧ Kd.string.C w A13 x.f9.length x.f9 := by
 obtain ⟨_, _, rfl, s0, ⟨_, _, rfl, rfl, ⟨_, _, rfl, rfl, ⟨_, _, rfl, rfl, ⟨_, _, rfl, rfl, ⟨_, _, rfl, rfl, ⟨_, _, rfl, rfl, ⟨_, _, rfl, s9, ⟨_, _, rfl, ⟨A12, c12, rfl, l12, g12⟩, ⟨A13, c13, rfl, l13, g13⟩⟩⟩⟩⟩⟩⟩⟩⟩⟩ := h
 obtain rfl := k37_open s0
 obtain rfl := k37_open s9
 exact ⟨A12, c12, A13, c13, rfl, l12, g12, l13, g13⟩
theorem k40_openM {w : World} {base : Nat} {ok : Nat → Prop} {x : S40} {cs : List Value} (h : k40.M w base ok x cs) : ∃ v12 v13, cs = [.int .i64 x.f0.f0, .int .i64 x.f0.f1, .int .i64 x.f0.f2, .int .i64 x.f1, .string x.f2, .int .i64 x.f3, .int .i64 x.f4, .string x.f5, .int .i64 x.f6, .int .i64 x.f7.f0, .int .i64 x.f7.f1, .int .i64 x.f7.f2, v12, v13] ∧ Kd.string.R 9 w base ok v12 x.f8 ∧ Kd.string.R 9 w base ok v13 x.f9 := by
 obtain ⟨_, _, rfl, s0, ⟨_, _, rfl, rfl, ⟨_, _, rfl, rfl, ⟨_, _, rfl, rfl, ⟨_, _, rfl, rfl, ⟨_, _, rfl, rfl, ⟨_, _, rfl, rfl, ⟨_, _, rfl, s9, ⟨_, _, rfl, ⟨v12, rfl, g12⟩, ⟨v13, rfl, g13⟩⟩⟩⟩⟩⟩⟩⟩⟩⟩ := h
 obtain rfl := k37_openM s0
 obtain rfl := k37_openM s9
 exact ⟨v12, v13, rfl, g12, g13⟩
theorem k40_mkM (w : World) (base : Nat) (ok : Nat → Prop) (x : S40) {v12 : Value} (g12 : Kd.string.R 9 w base ok v12 x.f8) {v13 : Value} (g13 : Kd.string.R 9 w base ok v13 x.f9) : k40.M w base ok x [.int .i64 x.f0.f0, .int .i64 x.f0.f1, .int .i64 x.f0.f2, .int .i64 x.f1, .string x.f2, .int .i64 x.f3, .int .i64 x.f4, .string x.f5, .int .i64 x.f6, .int .i64 x.f7.f0, .int .i64 x.f7.f1, .int .i64 x.f7.f2, v12, v13] := ⟨[.int .i64 x.f0.f0, .int .i64 x.f0.f1, .int .i64 x.f0.f2], [.int .i64 x.f1, .string x.f2, .int .i64 x.f3, .int .i64 x.f4, .string x.f5, .int .i64 x.f6, .int .i64 x.f7.f0, .int .i64 x.f7.f1, .int .i64 x.f7.f2, v12, v13], rfl, (k37_mkM w base ok x.f0 ), ⟨[.int .i64 x.f1], [.string x.f2, .int .i64 x.f3, .int .i64 x.f4, .string x.f5, .int .i64 x.f6, .int .i64 x.f7.f0, .int .i64 x.f7.f1, .int .i64 x.f7.f2, v12, v13], rfl, rfl, ⟨[.string x.f2], [.int .i64 x.f3, .int .i64 x.f4, .string x.f5, .int .i64 x.f6, .int .i64 x.f7.f0, .int .i64 x.f7.f1, .int .i64 x.f7.f2, v12, v13], rfl, rfl, ⟨[.int .i64 x.f3], [.int .i64 x.f4, .string x.f5, .int .i64 x.f6, .int .i64 x.f7.f0, .int .i64 x.f7.f1, .int .i64 x.f7.f2, v12, v13], rfl, rfl, ⟨[.int .i64 x.f4], [.string x.f5, .int .i64 x.f6, .int .i64 x.f7.f0, .int .i64 x.f7.f1, .int .i64 x.f7.f2, v12, v13], rfl, rfl, ⟨[.string x.f5], [.int .i64 x.f6, .int .i64 x.f7.f0, .int .i64 x.f7.f1, .int .i64 x.f7.f2, v12, v13], rfl, rfl, ⟨[.int .i64 x.f6], [.int .i64 x.f7.f0, .int .i64 x.f7.f1, .int .i64 x.f7.f2, v12, v13], rfl, rfl, ⟨[.int .i64 x.f7.f0, .int .i64 x.f7.f1, .int .i64 x.f7.f2], [v12, v13], rfl, (k37_mkM w base ok x.f7 ), ⟨[v12], [v13], rfl, ⟨v12, rfl, g12⟩, ⟨v13, rfl, g13⟩⟩⟩⟩⟩⟩⟩⟩⟩⟩
def rd_T40 (xs : List S40) (i : Int) : S40 := xs.getD i.toNat z40
theorem at_T40 {w : World} {A : Option Addr} {n : Nat} {xs : List S40} (h : Kd.C k40 w A n xs) (i : Int) (h0 : 0 ≤ i) (h1 : i < n) : ∃ ad A12 c12 A13 c13, A = some ad ∧ w.cell? (ad.add (i.toNat * 14)) = some (.int .i64 (rd_T40 xs i).f0.f0) ∧ w.cell? ⟨(ad.add (i.toNat * 14)).block, (ad.add (i.toNat * 14)).off + 1, none⟩ = some (.int .i64 (rd_T40 xs i).f0.f1) ∧ w.cell? ⟨(ad.add (i.toNat * 14)).block, (ad.add (i.toNat * 14)).off + 2, none⟩ = some (.int .i64 (rd_T40 xs i).f0.f2) ∧ w.cell? ⟨(ad.add (i.toNat * 14)).block, (ad.add (i.toNat * 14)).off + 3, none⟩ = some (.int .i64 (rd_T40 xs i).f1) ∧ w.cell? ⟨(ad.add (i.toNat * 14)).block, (ad.add (i.toNat * 14)).off + 4, none⟩ = some (.string (rd_T40 xs i).f2) ∧ w.cell? ⟨(ad.add (i.toNat * 14)).block, (ad.add (i.toNat * 14)).off + 5, none⟩ = some (.int .i64 (rd_T40 xs i).f3) ∧ w.cell? ⟨(ad.add (i.toNat * 14)).block, (ad.add (i.toNat * 14)).off + 6, none⟩ = some (.int .i64 (rd_T40 xs i).f4) ∧ w.cell? ⟨(ad.add (i.toNat * 14)).block, (ad.add (i.toNat * 14)).off + 7, none⟩ = some (.string (rd_T40 xs i).f5) ∧ w.cell? ⟨(ad.add (i.toNat * 14)).block, (ad.add (i.toNat * 14)).off + 8, none⟩ = some (.int .i64 (rd_T40 xs i).f6) ∧ w.cell? ⟨(ad.add (i.toNat * 14)).block, (ad.add (i.toNat * 14)).off + 9, none⟩ = some (.int .i64 (rd_T40 xs i).f7.f0) ∧ w.cell? ⟨(ad.add (i.toNat * 14)).block, (ad.add (i.toNat * 14)).off + 10, none⟩ = some (.int .i64 (rd_T40 xs i).f7.f1) ∧ w.cell? ⟨(ad.add (i.toNat * 14)).block, (ad.add (i.toNat * 14)).off + 11, none⟩ = some (.int .i64 (rd_T40 xs i).f7.f2) ∧ w.cell? ⟨(ad.add (i.toNat * 14)).block, (ad.add (i.toNat * 14)).off + 12, none⟩ = some (.slice A12 (rd_T40 xs i).f8.length c12) ∧ w.cell? ⟨(ad.add (i.toNat * 14)).block, (ad.add (i.toNat * 14)).off + 13, none⟩ = some (.slice A13 (rd_T40 xs i).f9.length c13) ∧ (rd_T40 xs i).f8.length ≤ c12 ∧ Kd.string.C w A12 (rd_T40 xs i).f8.length (rd_T40 xs i).f8 ∧ (rd_T40 xs i).f9.length ≤ c13 ∧ Kd.string.C w A13 (rd_T40 xs i).f9.length (rd_T40 xs i).f9 := by
 obtain ⟨ad, c, e, _, hK, hc0⟩ := Kd.C_get h z40 i h0 h1
 have hc : ∀ j u, c[j]? = some u → w.cell? (ad.add (i.toNat * 14 + j)) = some u := hc0
 obtain ⟨A12, c12, A13, c13, rfl, l12, g12, l13, g13⟩ := k40_open hK
 exact ⟨ad, A12, c12, A13, c13, e, hc 0 _ rfl, by rw [← add_field _ _ 1 (by omega)]; exact hc 1 _ rfl, by rw [← add_field _ _ 2 (by omega)]; exact hc 2 _ rfl, by rw [← add_field _ _ 3 (by omega)]; exact hc 3 _ rfl, by rw [← add_field _ _ 4 (by omega)]; exact hc 4 _ rfl, by rw [← add_field _ _ 5 (by omega)]; exact hc 5 _ rfl, by rw [← add_field _ _ 6 (by omega)]; exact hc 6 _ rfl, by rw [← add_field _ _ 7 (by omega)]; exact hc 7 _ rfl, by rw [← add_field _ _ 8 (by omega)]; exact hc 8 _ rfl, by rw [← add_field _ _ 9 (by omega)]; exact hc 9 _ rfl, by rw [← add_field _ _ 10 (by omega)]; exact hc 10 _ rfl, by rw [← add_field _ _ 11 (by omega)]; exact hc 11 _ rfl, by rw [← add_field _ _ 12 (by omega)]; exact hc 12 _ rfl, by rw [← add_field _ _ 13 (by omega)]; exact hc 13 _ rfl, l12, g12, l13, g13⟩
structure S25 where
 f0 : Int
 f1 : (List S40)
def k25 : Kd S25 := Kd.iso (Kd.pair (Kd.int .i64) (Kd.slice 40 k40)) (fun x : S25 => (x.f0, x.f1))
theorem k25_open {w : World} {x : S25} {cs : List Value} (h : k25.K w x cs) : ∃ A1 c1, cs = [.int .i64 x.f0, .slice A1 x.f1.length c1] ∧ x.f1.length ≤ c1 ∧ k40.C w A1 x.f1.length x.f1 := by
 obtain ⟨_, _, rfl, rfl, ⟨A1, c1, rfl, l1, g1⟩⟩ := h
 exact ⟨A1, c1, rfl, l1, g1⟩
structure S54 where
 f0 : ByteArray
 f1 : Int
 f2 : Bool
def wf37 (x : S37) : Prop := (Lit.int .i64 x.f0).wf = true ∧ (Lit.int .i64 x.f1).wf = true ∧ (Lit.int .i64 x.f2).wf = true
def wf40 (x : S40) : Prop := wf37 x.f0 ∧ (Lit.int .i64 x.f1).wf = true ∧ x.f2.size ≤ maxLen ∧ (Lit.int .i64 x.f3).wf = true ∧ (Lit.int .i64 x.f4).wf = true ∧ x.f5.size ≤ maxLen ∧ (Lit.int .i64 x.f6).wf = true ∧ wf37 x.f7 ∧ (x.f8.length ≤ maxLen ∧ ∀ y1 ∈ x.f8, y1.size ≤ maxLen) ∧ (x.f9.length ≤ maxLen ∧ ∀ y1 ∈ x.f9, y1.size ≤ maxLen)
def wf25 (x : S25) : Prop := (Lit.int .i64 x.f0).wf = true ∧ (x.f1.length ≤ maxLen ∧ ∀ y2 ∈ x.f1, wf40 y2)
theorem eqA37 (d : Nat) (w : World) (x0 y0 : Int) (x1 y1 : Int) (x2 y2 : Int) :
  (Op.equalIn (d + 2) 37 (.agg #[.int .i64 x0, .int .i64 x1, .int .i64 x2]) (.agg #[.int .i64 y0, .int .i64 y1, .int .i64 y2])).run Tryd.prog w = .ok (x0 == y0 && (x1 == y1 && (x2 == y2))) w := by
 refine eqA_of Tryd.underlying37 (by kernel_rfl) ?_
 refine eqf_cons (by rfl) (by go_simp; rfl) (by go_simp; rfl) (by go_simp) ?_
 refine eqf_cons (by rfl) (by go_simp; rfl) (by go_simp; rfl) (by go_simp) ?_
 exact eqf_last (by rfl) (by go_simp; rfl) (by go_simp; rfl) (by go_simp)
def computusref23_Texts.l0 : Nat → List ByteArray → List ByteArray → Int → Option (Bool)
 | 0, _, _, _ => none
 | k + 1, x0, x1, x5 => if x5 < (x0.length : Int) then (if 0 ≤ x5 then (if x5 < (x1.length : Int) then (if (rdOf ByteArray.empty x0 x5).toList = (rdOf ByteArray.empty x1 x5).toList then (computusref23_Texts.l0 k x0 x1 (wrap64 (x5 + 1))) else (some false)) else (none)) else (none)) else (some true)
def computusref23_Texts.f (k : Nat) (l0 : List ByteArray) (l1 : List ByteArray) : Option (Bool) := if (l0.length : Int) = (l1.length : Int) then (computusref23_Texts.l0 k l0 l1 0) else (some false)
theorem computusref23_Texts.mono_l : ∀ k, (∀ y0 y1 y2, LeO (computusref23_Texts.l0 k y0 y1 y2) (computusref23_Texts.l0 (k + 1) y0 y1 y2))
 | 0 => fun _ _ _ r h => by simp [computusref23_Texts.l0] at h
 | k + 1 => by
  have ih0 := computusref23_Texts.mono_l k
  ·intro y0 y1 y2
   unfold computusref23_Texts.l0
   repeat' first | (with_reducible first | exact ih0 _ _ _ | exact lr_ _ | exact ln_ _ | refine li_ ?_ ?_ | refine lb_ ?_ fun _ => ?_) | exact ln_ _ | refine li_ ?_ ?_ | refine lb_ ?_ fun _ => ?_
theorem computusref23_Texts.mono : ∀ a0 a1 k, LeO (computusref23_Texts.f k a0 a1) (computusref23_Texts.f (k + 1) a0 a1) := by
 intro a0 a1 k
 have ih0 := computusref23_Texts.mono_l k
 unfold computusref23_Texts.f
 repeat' first | (with_reducible first | exact ih0 _ _ _ | exact lr_ _ | exact ln_ _ | refine li_ ?_ ?_ | refine lb_ ?_ fun _ => ?_) | exact ln_ _ | refine li_ ?_ ?_ | refine lb_ ?_ fun _ => ?_
theorem computusref23_Texts.calls (k : Nat) (A0 : Option Addr) (c0 : Nat) (l0 : List ByteArray) (A1 : Option Addr) (c1 : Nat) (l1 : List ByteArray) (r : Bool) (w : World) (hr0 : Kd.C Kd.string w A0 l0.length l0) (hc0 : l0.length ≤ c0) (hr1 : Kd.C Kd.string w A1 l1.length l1) (hc1 : l1.length ≤ c1) (h : computusref23_Texts.f k l0 l1 = some r) :
  Calls Tryd.prog 42 #[.slice A0 l0.length c0, .slice A1 l1.length c1] w fun e w' => e = .returned (.bool r) ∧ Drawn0 w w' := by
 have HR0 := am_ hr0
 have HC0 := am_ hc0
 clear hr0 hc0
 have HR1 := am_ hr1
 have HC1 := am_ hc1
 clear hr1 hc1
 have H := h
 clear h
 unfold computusref23_Texts.f at H
 by_cases c3 : (l0.length : Int) = (l1.length : Int)
 rotate_left
 ·rw [if_neg c3] at H
  have c3b0 : ((l0.length : Int) == (l1.length : Int)) = false := beq_eq_false_iff_ne.mpr c3
  have c3b1 : ((l0.length : Int) != (l1.length : Int)) = true := bne_iff_ne.mpr c3
  have c3b2 : (l0.length == l1.length) = false := by first | simpa using c3 | (simp at c3 ⊢; omega)
  obtain rfl := Option.some.inj H
  go_enter Tryd.func42, Tryd.ntmps42
  go_wp2
  repeat (go_quiet (fail); try go_wp2)
  go_ret
  exact ⟨by first | rfl | (simp; done) | (simp [*]; done), by repeat (first | exact Drawn0.refl _ | apply Drawn0.step)⟩
 rw [if_pos c3] at H
 have c3b0 : ((l0.length : Int) == (l1.length : Int)) = true := beq_iff_eq.mpr c3
 have c3b1 : ((l0.length : Int) != (l1.length : Int)) = false := bne_eq_false_iff_eq.mpr c3
 have c3b2 : (l0.length == l1.length) = true := by first | simpa using c3 | (simp at c3 ⊢; omega)
 clear c3
 have H' := am_ H
 clear H
 go_enter Tryd.func42, Tryd.ntmps42
 go_wp2
 repeat (go_quiet (fail); try go_wp2)
 go_loopg [5] k (fun kq v5 w' => ∃ (x5_1 : Int), v5 = .int .i64 x5_1 ∧ Aside0 (computusref23_Texts.l0 kq l0 l1 x5_1 = some r) ∧ Aside0 (kq ≤ k) ∧ Drawn0 w w')
 case atStart => exact ⟨(0), rs_, H', ⟨Nat.le_refl _⟩, by repeat (first | exact Drawn0.refl _ | apply Drawn0.step)⟩
 case round =>
  clear H'
  obtain ⟨x5_1, rfl, HA, HK1, ⟨m1, rfl⟩⟩ := hrel
  cases gk with
  | zero => exact absurd HA.out (by simp [computusref23_Texts.l0])
  | succ k1 =>
   have H := HA.out
   clear HA
   simp only [computusref23_Texts.l0] at H
   by_cases c4 : x5_1 < (l0.length : Int)
   rotate_left
   ·rw [if_neg c4] at H
    have c4b0 : decide (x5_1 < (l0.length : Int)) = false := decide_eq_false c4
    clear c4
    obtain rfl := Option.some.inj H
    go_wp2
    repeat (go_quiet (fail); try go_wp2)
    go_ret
    exact ⟨by first | rfl | (simp; done) | (simp [*]; done), by repeat (first | exact Drawn0.refl _ | apply Drawn0.step)⟩
   rw [if_pos c4] at H
   have c4b0 : decide (x5_1 < (l0.length : Int)) = true := decide_eq_true c4
   clear c4
   by_cases c5 : 0 ≤ x5_1
   rotate_left
   ·rw [if_neg c5] at H
    exact absurd H (by simp)
   rw [if_pos c5] at H
   have c5b0 : decide (0 ≤ x5_1) = true := decide_eq_true c5
   clear c5
   by_cases c6 : x5_1 < (l1.length : Int)
   rotate_left
   ·rw [if_neg c6] at H
    exact absurd H (by simp)
   rw [if_pos c6] at H
   have c6b0 : decide (x5_1 < (l1.length : Int)) = true := decide_eq_true c6
   clear c6
   by_cases c7 : (rdOf ByteArray.empty l0 x5_1).toList = (rdOf ByteArray.empty l1 x5_1).toList
   rotate_left
   ·rw [if_neg c7] at H
    have c7b0 : ((rdOf ByteArray.empty l0 x5_1).toList == (rdOf ByteArray.empty l1 x5_1).toList) = false := beq_eq_false_iff_ne.mpr c7
    have c7b1 : ((rdOf ByteArray.empty l0 x5_1).toList != (rdOf ByteArray.empty l1 x5_1).toList) = true := bne_iff_ne.mpr c7
    obtain rfl := Option.some.inj H
    have p102 : 0 ≤ (x5_1 : Int) := of_decide_eq_true as_
    have q102 : x5_1 < (l0.length : Int) := of_decide_eq_true as_
    obtain ⟨ad102, e102, hx102_0⟩ := Kd.at_string HR0.out x5_1 p102 q102
    cases e102
    replace p102 := eq_true p102
    replace q102 := eq_true q102
    have p103 : 0 ≤ (x5_1 : Int) := of_decide_eq_true as_
    have q103 : x5_1 < (l1.length : Int) := of_decide_eq_true as_
    obtain ⟨ad103, e103, hx103_0⟩ := Kd.at_string HR1.out x5_1 p103 q103
    cases e103
    replace p103 := eq_true p103
    replace q103 := eq_true q103
    go_wp2
    repeat (go_quiet (fail); try go_wp2)
    go_ret
    exact ⟨by first | rfl | (simp; done) | (simp [*]; done), by repeat (first | exact Drawn0.refl _ | apply Drawn0.step)⟩
   rw [if_pos c7] at H
   have c7b0 : ((rdOf ByteArray.empty l0 x5_1).toList == (rdOf ByteArray.empty l1 x5_1).toList) = true := beq_iff_eq.mpr c7
   have c7b1 : ((rdOf ByteArray.empty l0 x5_1).toList != (rdOf ByteArray.empty l1 x5_1).toList) = false := bne_eq_false_iff_eq.mpr c7
   clear c7
   have H' := am_ H
   clear H
   have p102 : 0 ≤ (x5_1 : Int) := of_decide_eq_true as_
   have q102 : x5_1 < (l0.length : Int) := of_decide_eq_true as_
   obtain ⟨ad102, e102, hx102_0⟩ := Kd.at_string HR0.out x5_1 p102 q102
   cases e102
   replace p102 := eq_true p102
   replace q102 := eq_true q102
   have p103 : 0 ≤ (x5_1 : Int) := of_decide_eq_true as_
   have q103 : x5_1 < (l1.length : Int) := of_decide_eq_true as_
   obtain ⟨ad103, e103, hx103_0⟩ := Kd.at_string HR1.out x5_1 p103 q103
   cases e103
   replace p103 := eq_true p103
   replace q103 := eq_true q103
   go_wp2
   repeat (go_quiet (fail); try go_wp2)
   go_roundg k1
   case measure => have := HK1.out; omega
   case rel => exact ⟨(wrap64 (x5_1 + 1)), rs_, H', ⟨by have := HK1.out; omega⟩, by repeat (first | exact Drawn0.refl _ | apply Drawn0.step)⟩
section
attribute [local go_sem high] eqA37
def computusref23_SameEntry.f (k : Nat) (a0_0 : Int) (a0_1 : Int) (a0_2 : Int) (a0_3 : Int) (a0_4 : ByteArray) (a0_5 : Int) (a0_6 : Int) (a0_7 : ByteArray) (a0_8 : Int) (a0_9 : Int) (a0_10 : Int) (a0_11 : Int) (l0_12 : List ByteArray) (l0_13 : List ByteArray) (a1_0 : Int) (a1_1 : Int) (a1_2 : Int) (a1_3 : Int) (a1_4 : ByteArray) (a1_5 : Int) (a1_6 : Int) (a1_7 : ByteArray) (a1_8 : Int) (a1_9 : Int) (a1_10 : Int) (a1_11 : Int) (l1_12 : List ByteArray) (l1_13 : List ByteArray) : Option (Bool) := if (a0_0 == a1_0 && (a0_1 == a1_1 && (a0_2 == a1_2))) = true then (if a0_3 = a1_3 then (if a0_4.toList = a1_4.toList then (if a0_5 = a1_5 then (if a0_6 = a1_6 then (if a0_7.toList = a1_7.toList then (if a0_8 = a1_8 then (if (a0_9 == a1_9 && (a0_10 == a1_10 && (a0_11 == a1_11))) = true then ((computusref23_Texts.f k l0_12 l1_12).bind fun t106 => (if t106 = true then ((computusref23_Texts.f k l0_13 l1_13).bind fun t107 => (some t107)) else (some false))) else (some false)) else (some false)) else (some false)) else (some false)) else (some false)) else (some false)) else (some false)) else (some false)
theorem computusref23_SameEntry.mono : ∀ a0 a1 a2 a3 a4 a5 a6 a7 a8 a9 a10 a11 a12 a13 a14 a15 a16 a17 a18 a19 a20 a21 a22 a23 a24 a25 a26 a27 k, LeO (computusref23_SameEntry.f k a0 a1 a2 a3 a4 a5 a6 a7 a8 a9 a10 a11 a12 a13 a14 a15 a16 a17 a18 a19 a20 a21 a22 a23 a24 a25 a26 a27) (computusref23_SameEntry.f (k + 1) a0 a1 a2 a3 a4 a5 a6 a7 a8 a9 a10 a11 a12 a13 a14 a15 a16 a17 a18 a19 a20 a21 a22 a23 a24 a25 a26 a27) := by
 intro a0 a1 a2 a3 a4 a5 a6 a7 a8 a9 a10 a11 a12 a13 a14 a15 a16 a17 a18 a19 a20 a21 a22 a23 a24 a25 a26 a27 k
 unfold computusref23_SameEntry.f
 repeat' first | (with_reducible first | exact computusref23_Texts.mono _ _ _ | exact lr_ _ | exact ln_ _ | refine li_ ?_ ?_ | refine lb_ ?_ fun _ => ?_) | exact ln_ _ | refine li_ ?_ ?_ | refine lb_ ?_ fun _ => ?_
theorem computusref23_SameEntry.calls (k : Nat) (a0_0 : Int) (a0_1 : Int) (a0_2 : Int) (a0_3 : Int) (a0_4 : ByteArray) (a0_5 : Int) (a0_6 : Int) (a0_7 : ByteArray) (a0_8 : Int) (a0_9 : Int) (a0_10 : Int) (a0_11 : Int) (A0_12 : Option Addr) (c0_12 : Nat) (l0_12 : List ByteArray) (A0_13 : Option Addr) (c0_13 : Nat) (l0_13 : List ByteArray) (a1_0 : Int) (a1_1 : Int) (a1_2 : Int) (a1_3 : Int) (a1_4 : ByteArray) (a1_5 : Int) (a1_6 : Int) (a1_7 : ByteArray) (a1_8 : Int) (a1_9 : Int) (a1_10 : Int) (a1_11 : Int) (A1_12 : Option Addr) (c1_12 : Nat) (l1_12 : List ByteArray) (A1_13 : Option Addr) (c1_13 : Nat) (l1_13 : List ByteArray) (r : Bool) (w : World) (hr0_12 : Kd.C Kd.string w A0_12 l0_12.length l0_12) (hc0_12 : l0_12.length ≤ c0_12) (hr0_13 : Kd.C Kd.string w A0_13 l0_13.length l0_13) (hc0_13 : l0_13.length ≤ c0_13) (hr1_12 : Kd.C Kd.string w A1_12 l1_12.length l1_12) (hc1_12 : l1_12.length ≤ c1_12) (hr1_13 : Kd.C Kd.string w A1_13 l1_13.length l1_13) (hc1_13 : l1_13.length ≤ c1_13) (h : computusref23_SameEntry.f k a0_0 a0_1 a0_2 a0_3 a0_4 a0_5 a0_6 a0_7 a0_8 a0_9 a0_10 a0_11 l0_12 l0_13 a1_0 a1_1 a1_2 a1_3 a1_4 a1_5 a1_6 a1_7 a1_8 a1_9 a1_10 a1_11 l1_12 l1_13 = some r) :
  Calls Tryd.prog 18 #[.agg #[.int .i64 a0_0, .int .i64 a0_1, .int .i64 a0_2, .int .i64 a0_3, .string a0_4, .int .i64 a0_5, .int .i64 a0_6, .string a0_7, .int .i64 a0_8, .int .i64 a0_9, .int .i64 a0_10, .int .i64 a0_11, .slice A0_12 l0_12.length c0_12, .slice A0_13 l0_13.length c0_13], .agg #[.int .i64 a1_0, .int .i64 a1_1, .int .i64 a1_2, .int .i64 a1_3, .string a1_4, .int .i64 a1_5, .int .i64 a1_6, .string a1_7, .int .i64 a1_8, .int .i64 a1_9, .int .i64 a1_10, .int .i64 a1_11, .slice A1_12 l1_12.length c1_12, .slice A1_13 l1_13.length c1_13]] w fun e w' => e = .returned (.bool r) ∧ Below w.heap.size w w' := by
 have hu40 := Tryd.underlying40
 have hu37 := Tryd.underlying37
 have HR0_12 := am_ hr0_12
 have HC0_12 := am_ hc0_12
 clear hr0_12 hc0_12
 have HR0_13 := am_ hr0_13
 have HC0_13 := am_ hc0_13
 clear hr0_13 hc0_13
 have HR1_12 := am_ hr1_12
 have HC1_12 := am_ hc1_12
 clear hr1_12 hc1_12
 have HR1_13 := am_ hr1_13
 have HC1_13 := am_ hc1_13
 clear hr1_13 hc1_13
 have HB := am_ (Below.refl w.heap.size w)
 have H := h
 clear h
 unfold computusref23_SameEntry.f at H
 by_cases c3 : (a0_0 == a1_0 && (a0_1 == a1_1 && (a0_2 == a1_2))) = true
 rotate_left
 ·rw [if_neg c3] at H
  have c3b0 : (a0_0 == a1_0 && (a0_1 == a1_1 && (a0_2 == a1_2))) = false := by simpa using c3
  (try (have c3b1 : decide (a0_0 = a1_0 && (a0_1 == a1_1 && (a0_2 == a1_2))) = false := by simpa using c3))
  (try (have c3b2 : (a0_0 == a1_0 && (a0_1 == a1_1 && (a0_2 == a1_2))) = false := by simpa using c3))
  (try (have c3b3 : ¬ (a0_0 = a1_0 && (a0_1 == a1_1 && (a0_2 == a1_2))) := by simpa using c3))
  clear c3
  obtain rfl := Option.some.inj H
  go_enter Tryd.func18, Tryd.ntmps18
  go_wp2_with (first | ((with_reducible refine gate_dst (N := 2) rfl ?_); refine bx_ (w := w) (N := 2) (cs := #[.int .i64 a0_0, .int .i64 a0_1, .int .i64 a0_2, .int .i64 a0_3, .string a0_4, .int .i64 a0_5, .int .i64 a0_6, .string a0_7, .int .i64 a0_8, .int .i64 a0_9, .int .i64 a0_10, .int .i64 a0_11, .slice A0_12 l0_12.length c0_12, .slice A0_13 l0_13.length c0_13]) (t := 40) ?_; intro gb104 w59 BK104 n0_ GW104 GE104; clear HB; have HB := n0_; clear n0_) | ((with_reducible refine gate_dst (N := 3) rfl ?_); refine be_ (N := 3) (cs := #[.int .i64 a1_0, .int .i64 a1_1, .int .i64 a1_2, .int .i64 a1_3, .string a1_4, .int .i64 a1_5, .int .i64 a1_6, .string a1_7, .int .i64 a1_8, .int .i64 a1_9, .int .i64 a1_10, .int .i64 a1_11, .slice A1_12 l1_12.length c1_12, .slice A1_13 l1_13.length c1_13]) (t := 40) ?_; intro gb105 hg w60 hbox hb; have BK105 := am_ (hbox); have GW105 := gw_ (w := w) hg; have GE105 := gw_ (w := w) hg; replace HB := bt_ hb; have NB104_105 := ne_ hg BK104; have NB105_104 := nf_ hg BK104; replace BK104 := bw_ BK104 hb; clear hb hbox hg; have hnb61 := NB104_105.out; have hnc61 := NB105_104.out; have hcz62_0 : w60.cell? ⟨gb104, 0, none⟩ = some (.int .i64 a0_0) := (blk_cell BK104.out 0).trans rfl; have hcz62_1 : w60.cell? ⟨gb104, 1, none⟩ = some (.int .i64 a0_1) := (blk_cell BK104.out 1).trans rfl; have hcz62_2 : w60.cell? ⟨gb104, 2, none⟩ = some (.int .i64 a0_2) := (blk_cell BK104.out 2).trans rfl; have hcz62_3 : w60.cell? ⟨gb104, 3, none⟩ = some (.int .i64 a0_3) := (blk_cell BK104.out 3).trans rfl; have hcz62_4 : w60.cell? ⟨gb104, 4, none⟩ = some (.string a0_4) := (blk_cell BK104.out 4).trans rfl; have hcz62_5 : w60.cell? ⟨gb104, 5, none⟩ = some (.int .i64 a0_5) := (blk_cell BK104.out 5).trans rfl; have hcz62_6 : w60.cell? ⟨gb104, 6, none⟩ = some (.int .i64 a0_6) := (blk_cell BK104.out 6).trans rfl; have hcz62_7 : w60.cell? ⟨gb104, 7, none⟩ = some (.string a0_7) := (blk_cell BK104.out 7).trans rfl; have hcz62_8 : w60.cell? ⟨gb104, 8, none⟩ = some (.int .i64 a0_8) := (blk_cell BK104.out 8).trans rfl; have hcz62_9 : w60.cell? ⟨gb104, 9, none⟩ = some (.int .i64 a0_9) := (blk_cell BK104.out 9).trans rfl; have hcz62_10 : w60.cell? ⟨gb104, 10, none⟩ = some (.int .i64 a0_10) := (blk_cell BK104.out 10).trans rfl; have hcz62_11 : w60.cell? ⟨gb104, 11, none⟩ = some (.int .i64 a0_11) := (blk_cell BK104.out 11).trans rfl; have hcz62_12 : w60.cell? ⟨gb104, 12, none⟩ = some (.slice A0_12 l0_12.length c0_12) := (blk_cell BK104.out 12).trans rfl; have hcz62_13 : w60.cell? ⟨gb104, 13, none⟩ = some (.slice A0_13 l0_13.length c0_13) := (blk_cell BK104.out 13).trans rfl; have hfz62_0 := blk_frozen BK104.out 0; have hfz62_1 := blk_frozen BK104.out 1; have hfz62_2 := blk_frozen BK104.out 2; have hfz62_3 := blk_frozen BK104.out 3; have hfz62_4 := blk_frozen BK104.out 4; have hfz62_5 := blk_frozen BK104.out 5; have hfz62_6 := blk_frozen BK104.out 6; have hfz62_7 := blk_frozen BK104.out 7; have hfz62_8 := blk_frozen BK104.out 8; have hfz62_9 := blk_frozen BK104.out 9; have hfz62_10 := blk_frozen BK104.out 10; have hfz62_11 := blk_frozen BK104.out 11; have hfz62_12 := blk_frozen BK104.out 12; have hfz62_13 := blk_frozen BK104.out 13; have hcz63_0 : w60.cell? ⟨gb105, 0, none⟩ = some (.int .i64 a1_0) := (blk_cell BK105.out 0).trans rfl; have hcz63_1 : w60.cell? ⟨gb105, 1, none⟩ = some (.int .i64 a1_1) := (blk_cell BK105.out 1).trans rfl; have hcz63_2 : w60.cell? ⟨gb105, 2, none⟩ = some (.int .i64 a1_2) := (blk_cell BK105.out 2).trans rfl; have hcz63_3 : w60.cell? ⟨gb105, 3, none⟩ = some (.int .i64 a1_3) := (blk_cell BK105.out 3).trans rfl; have hcz63_4 : w60.cell? ⟨gb105, 4, none⟩ = some (.string a1_4) := (blk_cell BK105.out 4).trans rfl; have hcz63_5 : w60.cell? ⟨gb105, 5, none⟩ = some (.int .i64 a1_5) := (blk_cell BK105.out 5).trans rfl; have hcz63_6 : w60.cell? ⟨gb105, 6, none⟩ = some (.int .i64 a1_6) := (blk_cell BK105.out 6).trans rfl; have hcz63_7 : w60.cell? ⟨gb105, 7, none⟩ = some (.string a1_7) := (blk_cell BK105.out 7).trans rfl; have hcz63_8 : w60.cell? ⟨gb105, 8, none⟩ = some (.int .i64 a1_8) := (blk_cell BK105.out 8).trans rfl; have hcz63_9 : w60.cell? ⟨gb105, 9, none⟩ = some (.int .i64 a1_9) := (blk_cell BK105.out 9).trans rfl; have hcz63_10 : w60.cell? ⟨gb105, 10, none⟩ = some (.int .i64 a1_10) := (blk_cell BK105.out 10).trans rfl; have hcz63_11 : w60.cell? ⟨gb105, 11, none⟩ = some (.int .i64 a1_11) := (blk_cell BK105.out 11).trans rfl; have hcz63_12 : w60.cell? ⟨gb105, 12, none⟩ = some (.slice A1_12 l1_12.length c1_12) := (blk_cell BK105.out 12).trans rfl; have hcz63_13 : w60.cell? ⟨gb105, 13, none⟩ = some (.slice A1_13 l1_13.length c1_13) := (blk_cell BK105.out 13).trans rfl; have hfz63_0 := blk_frozen BK105.out 0; have hfz63_1 := blk_frozen BK105.out 1; have hfz63_2 := blk_frozen BK105.out 2; have hfz63_3 := blk_frozen BK105.out 3; have hfz63_4 := blk_frozen BK105.out 4; have hfz63_5 := blk_frozen BK105.out 5; have hfz63_6 := blk_frozen BK105.out 6; have hfz63_7 := blk_frozen BK105.out 7; have hfz63_8 := blk_frozen BK105.out 8; have hfz63_9 := blk_frozen BK105.out 9; have hfz63_10 := blk_frozen BK105.out 10; have hfz63_11 := blk_frozen BK105.out 11; have hfz63_12 := blk_frozen BK105.out 12; have hfz63_13 := blk_frozen BK105.out 13))
  go_ret
  exact rt_
 rw [if_pos c3] at H
 have c3b0 : (a0_0 == a1_0 && (a0_1 == a1_1 && (a0_2 == a1_2))) = true := c3
 (try (have c3b1 : decide (a0_0 = a1_0 && (a0_1 == a1_1 && (a0_2 == a1_2))) = true := by simpa using c3))
 (try (have c3b2 : (a0_0 == a1_0 && (a0_1 == a1_1 && (a0_2 == a1_2))) = true := by simpa using c3))
 clear c3
 by_cases c4 : a0_3 = a1_3
 rotate_left
 ·rw [if_neg c4] at H
  have c4b0 : (a0_3 == a1_3) = false := beq_eq_false_iff_ne.mpr c4
  have c4b1 : (a0_3 != a1_3) = true := bne_iff_ne.mpr c4
  obtain rfl := Option.some.inj H
  go_enter Tryd.func18, Tryd.ntmps18
  go_wp2_with (first | ((with_reducible refine gate_dst (N := 2) rfl ?_); refine bx_ (w := w) (N := 2) (cs := #[.int .i64 a0_0, .int .i64 a0_1, .int .i64 a0_2, .int .i64 a0_3, .string a0_4, .int .i64 a0_5, .int .i64 a0_6, .string a0_7, .int .i64 a0_8, .int .i64 a0_9, .int .i64 a0_10, .int .i64 a0_11, .slice A0_12 l0_12.length c0_12, .slice A0_13 l0_13.length c0_13]) (t := 40) ?_; intro gb104 w54 BK104 n0_ GW104 GE104; clear HB; have HB := n0_; clear n0_) | ((with_reducible refine gate_dst (N := 3) rfl ?_); refine be_ (N := 3) (cs := #[.int .i64 a1_0, .int .i64 a1_1, .int .i64 a1_2, .int .i64 a1_3, .string a1_4, .int .i64 a1_5, .int .i64 a1_6, .string a1_7, .int .i64 a1_8, .int .i64 a1_9, .int .i64 a1_10, .int .i64 a1_11, .slice A1_12 l1_12.length c1_12, .slice A1_13 l1_13.length c1_13]) (t := 40) ?_; intro gb105 hg w55 hbox hb; have BK105 := am_ (hbox); have GW105 := gw_ (w := w) hg; have GE105 := gw_ (w := w) hg; replace HB := bt_ hb; have NB104_105 := ne_ hg BK104; have NB105_104 := nf_ hg BK104; replace BK104 := bw_ BK104 hb; clear hb hbox hg; have hnb56 := NB104_105.out; have hnc56 := NB105_104.out; have hcz57_0 : w55.cell? ⟨gb104, 0, none⟩ = some (.int .i64 a0_0) := (blk_cell BK104.out 0).trans rfl; have hcz57_1 : w55.cell? ⟨gb104, 1, none⟩ = some (.int .i64 a0_1) := (blk_cell BK104.out 1).trans rfl; have hcz57_2 : w55.cell? ⟨gb104, 2, none⟩ = some (.int .i64 a0_2) := (blk_cell BK104.out 2).trans rfl; have hcz57_3 : w55.cell? ⟨gb104, 3, none⟩ = some (.int .i64 a0_3) := (blk_cell BK104.out 3).trans rfl; have hcz57_4 : w55.cell? ⟨gb104, 4, none⟩ = some (.string a0_4) := (blk_cell BK104.out 4).trans rfl; have hcz57_5 : w55.cell? ⟨gb104, 5, none⟩ = some (.int .i64 a0_5) := (blk_cell BK104.out 5).trans rfl; have hcz57_6 : w55.cell? ⟨gb104, 6, none⟩ = some (.int .i64 a0_6) := (blk_cell BK104.out 6).trans rfl; have hcz57_7 : w55.cell? ⟨gb104, 7, none⟩ = some (.string a0_7) := (blk_cell BK104.out 7).trans rfl; have hcz57_8 : w55.cell? ⟨gb104, 8, none⟩ = some (.int .i64 a0_8) := (blk_cell BK104.out 8).trans rfl; have hcz57_9 : w55.cell? ⟨gb104, 9, none⟩ = some (.int .i64 a0_9) := (blk_cell BK104.out 9).trans rfl; have hcz57_10 : w55.cell? ⟨gb104, 10, none⟩ = some (.int .i64 a0_10) := (blk_cell BK104.out 10).trans rfl; have hcz57_11 : w55.cell? ⟨gb104, 11, none⟩ = some (.int .i64 a0_11) := (blk_cell BK104.out 11).trans rfl; have hcz57_12 : w55.cell? ⟨gb104, 12, none⟩ = some (.slice A0_12 l0_12.length c0_12) := (blk_cell BK104.out 12).trans rfl; have hcz57_13 : w55.cell? ⟨gb104, 13, none⟩ = some (.slice A0_13 l0_13.length c0_13) := (blk_cell BK104.out 13).trans rfl; have hfz57_0 := blk_frozen BK104.out 0; have hfz57_1 := blk_frozen BK104.out 1; have hfz57_2 := blk_frozen BK104.out 2; have hfz57_3 := blk_frozen BK104.out 3; have hfz57_4 := blk_frozen BK104.out 4; have hfz57_5 := blk_frozen BK104.out 5; have hfz57_6 := blk_frozen BK104.out 6; have hfz57_7 := blk_frozen BK104.out 7; have hfz57_8 := blk_frozen BK104.out 8; have hfz57_9 := blk_frozen BK104.out 9; have hfz57_10 := blk_frozen BK104.out 10; have hfz57_11 := blk_frozen BK104.out 11; have hfz57_12 := blk_frozen BK104.out 12; have hfz57_13 := blk_frozen BK104.out 13; have hcz58_0 : w55.cell? ⟨gb105, 0, none⟩ = some (.int .i64 a1_0) := (blk_cell BK105.out 0).trans rfl; have hcz58_1 : w55.cell? ⟨gb105, 1, none⟩ = some (.int .i64 a1_1) := (blk_cell BK105.out 1).trans rfl; have hcz58_2 : w55.cell? ⟨gb105, 2, none⟩ = some (.int .i64 a1_2) := (blk_cell BK105.out 2).trans rfl; have hcz58_3 : w55.cell? ⟨gb105, 3, none⟩ = some (.int .i64 a1_3) := (blk_cell BK105.out 3).trans rfl; have hcz58_4 : w55.cell? ⟨gb105, 4, none⟩ = some (.string a1_4) := (blk_cell BK105.out 4).trans rfl; have hcz58_5 : w55.cell? ⟨gb105, 5, none⟩ = some (.int .i64 a1_5) := (blk_cell BK105.out 5).trans rfl; have hcz58_6 : w55.cell? ⟨gb105, 6, none⟩ = some (.int .i64 a1_6) := (blk_cell BK105.out 6).trans rfl; have hcz58_7 : w55.cell? ⟨gb105, 7, none⟩ = some (.string a1_7) := (blk_cell BK105.out 7).trans rfl; have hcz58_8 : w55.cell? ⟨gb105, 8, none⟩ = some (.int .i64 a1_8) := (blk_cell BK105.out 8).trans rfl; have hcz58_9 : w55.cell? ⟨gb105, 9, none⟩ = some (.int .i64 a1_9) := (blk_cell BK105.out 9).trans rfl; have hcz58_10 : w55.cell? ⟨gb105, 10, none⟩ = some (.int .i64 a1_10) := (blk_cell BK105.out 10).trans rfl; have hcz58_11 : w55.cell? ⟨gb105, 11, none⟩ = some (.int .i64 a1_11) := (blk_cell BK105.out 11).trans rfl; have hcz58_12 : w55.cell? ⟨gb105, 12, none⟩ = some (.slice A1_12 l1_12.length c1_12) := (blk_cell BK105.out 12).trans rfl; have hcz58_13 : w55.cell? ⟨gb105, 13, none⟩ = some (.slice A1_13 l1_13.length c1_13) := (blk_cell BK105.out 13).trans rfl; have hfz58_0 := blk_frozen BK105.out 0; have hfz58_1 := blk_frozen BK105.out 1; have hfz58_2 := blk_frozen BK105.out 2; have hfz58_3 := blk_frozen BK105.out 3; have hfz58_4 := blk_frozen BK105.out 4; have hfz58_5 := blk_frozen BK105.out 5; have hfz58_6 := blk_frozen BK105.out 6; have hfz58_7 := blk_frozen BK105.out 7; have hfz58_8 := blk_frozen BK105.out 8; have hfz58_9 := blk_frozen BK105.out 9; have hfz58_10 := blk_frozen BK105.out 10; have hfz58_11 := blk_frozen BK105.out 11; have hfz58_12 := blk_frozen BK105.out 12; have hfz58_13 := blk_frozen BK105.out 13))
  go_ret
  exact rt_
 rw [if_pos c4] at H
 have c4b0 : (a0_3 == a1_3) = true := beq_iff_eq.mpr c4
 have c4b1 : (a0_3 != a1_3) = false := bne_eq_false_iff_eq.mpr c4
 clear c4
 by_cases c5 : a0_4.toList = a1_4.toList
 rotate_left
 ·rw [if_neg c5] at H
  have c5b0 : (a0_4.toList == a1_4.toList) = false := beq_eq_false_iff_ne.mpr c5
  have c5b1 : (a0_4.toList != a1_4.toList) = true := bne_iff_ne.mpr c5
  obtain rfl := Option.some.inj H
  go_enter Tryd.func18, Tryd.ntmps18
  go_wp2_with (first | ((with_reducible refine gate_dst (N := 2) rfl ?_); refine bx_ (w := w) (N := 2) (cs := #[.int .i64 a0_0, .int .i64 a0_1, .int .i64 a0_2, .int .i64 a0_3, .string a0_4, .int .i64 a0_5, .int .i64 a0_6, .string a0_7, .int .i64 a0_8, .int .i64 a0_9, .int .i64 a0_10, .int .i64 a0_11, .slice A0_12 l0_12.length c0_12, .slice A0_13 l0_13.length c0_13]) (t := 40) ?_; intro gb104 w49 BK104 n0_ GW104 GE104; clear HB; have HB := n0_; clear n0_) | ((with_reducible refine gate_dst (N := 3) rfl ?_); refine be_ (N := 3) (cs := #[.int .i64 a1_0, .int .i64 a1_1, .int .i64 a1_2, .int .i64 a1_3, .string a1_4, .int .i64 a1_5, .int .i64 a1_6, .string a1_7, .int .i64 a1_8, .int .i64 a1_9, .int .i64 a1_10, .int .i64 a1_11, .slice A1_12 l1_12.length c1_12, .slice A1_13 l1_13.length c1_13]) (t := 40) ?_; intro gb105 hg w50 hbox hb; have BK105 := am_ (hbox); have GW105 := gw_ (w := w) hg; have GE105 := gw_ (w := w) hg; replace HB := bt_ hb; have NB104_105 := ne_ hg BK104; have NB105_104 := nf_ hg BK104; replace BK104 := bw_ BK104 hb; clear hb hbox hg; have hnb51 := NB104_105.out; have hnc51 := NB105_104.out; have hcz52_0 : w50.cell? ⟨gb104, 0, none⟩ = some (.int .i64 a0_0) := (blk_cell BK104.out 0).trans rfl; have hcz52_1 : w50.cell? ⟨gb104, 1, none⟩ = some (.int .i64 a0_1) := (blk_cell BK104.out 1).trans rfl; have hcz52_2 : w50.cell? ⟨gb104, 2, none⟩ = some (.int .i64 a0_2) := (blk_cell BK104.out 2).trans rfl; have hcz52_3 : w50.cell? ⟨gb104, 3, none⟩ = some (.int .i64 a0_3) := (blk_cell BK104.out 3).trans rfl; have hcz52_4 : w50.cell? ⟨gb104, 4, none⟩ = some (.string a0_4) := (blk_cell BK104.out 4).trans rfl; have hcz52_5 : w50.cell? ⟨gb104, 5, none⟩ = some (.int .i64 a0_5) := (blk_cell BK104.out 5).trans rfl; have hcz52_6 : w50.cell? ⟨gb104, 6, none⟩ = some (.int .i64 a0_6) := (blk_cell BK104.out 6).trans rfl; have hcz52_7 : w50.cell? ⟨gb104, 7, none⟩ = some (.string a0_7) := (blk_cell BK104.out 7).trans rfl; have hcz52_8 : w50.cell? ⟨gb104, 8, none⟩ = some (.int .i64 a0_8) := (blk_cell BK104.out 8).trans rfl; have hcz52_9 : w50.cell? ⟨gb104, 9, none⟩ = some (.int .i64 a0_9) := (blk_cell BK104.out 9).trans rfl; have hcz52_10 : w50.cell? ⟨gb104, 10, none⟩ = some (.int .i64 a0_10) := (blk_cell BK104.out 10).trans rfl; have hcz52_11 : w50.cell? ⟨gb104, 11, none⟩ = some (.int .i64 a0_11) := (blk_cell BK104.out 11).trans rfl; have hcz52_12 : w50.cell? ⟨gb104, 12, none⟩ = some (.slice A0_12 l0_12.length c0_12) := (blk_cell BK104.out 12).trans rfl; have hcz52_13 : w50.cell? ⟨gb104, 13, none⟩ = some (.slice A0_13 l0_13.length c0_13) := (blk_cell BK104.out 13).trans rfl; have hfz52_0 := blk_frozen BK104.out 0; have hfz52_1 := blk_frozen BK104.out 1; have hfz52_2 := blk_frozen BK104.out 2; have hfz52_3 := blk_frozen BK104.out 3; have hfz52_4 := blk_frozen BK104.out 4; have hfz52_5 := blk_frozen BK104.out 5; have hfz52_6 := blk_frozen BK104.out 6; have hfz52_7 := blk_frozen BK104.out 7; have hfz52_8 := blk_frozen BK104.out 8; have hfz52_9 := blk_frozen BK104.out 9; have hfz52_10 := blk_frozen BK104.out 10; have hfz52_11 := blk_frozen BK104.out 11; have hfz52_12 := blk_frozen BK104.out 12; have hfz52_13 := blk_frozen BK104.out 13; have hcz53_0 : w50.cell? ⟨gb105, 0, none⟩ = some (.int .i64 a1_0) := (blk_cell BK105.out 0).trans rfl; have hcz53_1 : w50.cell? ⟨gb105, 1, none⟩ = some (.int .i64 a1_1) := (blk_cell BK105.out 1).trans rfl; have hcz53_2 : w50.cell? ⟨gb105, 2, none⟩ = some (.int .i64 a1_2) := (blk_cell BK105.out 2).trans rfl; have hcz53_3 : w50.cell? ⟨gb105, 3, none⟩ = some (.int .i64 a1_3) := (blk_cell BK105.out 3).trans rfl; have hcz53_4 : w50.cell? ⟨gb105, 4, none⟩ = some (.string a1_4) := (blk_cell BK105.out 4).trans rfl; have hcz53_5 : w50.cell? ⟨gb105, 5, none⟩ = some (.int .i64 a1_5) := (blk_cell BK105.out 5).trans rfl; have hcz53_6 : w50.cell? ⟨gb105, 6, none⟩ = some (.int .i64 a1_6) := (blk_cell BK105.out 6).trans rfl; have hcz53_7 : w50.cell? ⟨gb105, 7, none⟩ = some (.string a1_7) := (blk_cell BK105.out 7).trans rfl; have hcz53_8 : w50.cell? ⟨gb105, 8, none⟩ = some (.int .i64 a1_8) := (blk_cell BK105.out 8).trans rfl; have hcz53_9 : w50.cell? ⟨gb105, 9, none⟩ = some (.int .i64 a1_9) := (blk_cell BK105.out 9).trans rfl; have hcz53_10 : w50.cell? ⟨gb105, 10, none⟩ = some (.int .i64 a1_10) := (blk_cell BK105.out 10).trans rfl; have hcz53_11 : w50.cell? ⟨gb105, 11, none⟩ = some (.int .i64 a1_11) := (blk_cell BK105.out 11).trans rfl; have hcz53_12 : w50.cell? ⟨gb105, 12, none⟩ = some (.slice A1_12 l1_12.length c1_12) := (blk_cell BK105.out 12).trans rfl; have hcz53_13 : w50.cell? ⟨gb105, 13, none⟩ = some (.slice A1_13 l1_13.length c1_13) := (blk_cell BK105.out 13).trans rfl; have hfz53_0 := blk_frozen BK105.out 0; have hfz53_1 := blk_frozen BK105.out 1; have hfz53_2 := blk_frozen BK105.out 2; have hfz53_3 := blk_frozen BK105.out 3; have hfz53_4 := blk_frozen BK105.out 4; have hfz53_5 := blk_frozen BK105.out 5; have hfz53_6 := blk_frozen BK105.out 6; have hfz53_7 := blk_frozen BK105.out 7; have hfz53_8 := blk_frozen BK105.out 8; have hfz53_9 := blk_frozen BK105.out 9; have hfz53_10 := blk_frozen BK105.out 10; have hfz53_11 := blk_frozen BK105.out 11; have hfz53_12 := blk_frozen BK105.out 12; have hfz53_13 := blk_frozen BK105.out 13))
  go_ret
  exact rt_
 rw [if_pos c5] at H
 have c5b0 : (a0_4.toList == a1_4.toList) = true := beq_iff_eq.mpr c5
 have c5b1 : (a0_4.toList != a1_4.toList) = false := bne_eq_false_iff_eq.mpr c5
 clear c5
 by_cases c6 : a0_5 = a1_5
 rotate_left
 ·rw [if_neg c6] at H
  have c6b0 : (a0_5 == a1_5) = false := beq_eq_false_iff_ne.mpr c6
  have c6b1 : (a0_5 != a1_5) = true := bne_iff_ne.mpr c6
  obtain rfl := Option.some.inj H
  go_enter Tryd.func18, Tryd.ntmps18
  go_wp2_with (first | ((with_reducible refine gate_dst (N := 2) rfl ?_); refine bx_ (w := w) (N := 2) (cs := #[.int .i64 a0_0, .int .i64 a0_1, .int .i64 a0_2, .int .i64 a0_3, .string a0_4, .int .i64 a0_5, .int .i64 a0_6, .string a0_7, .int .i64 a0_8, .int .i64 a0_9, .int .i64 a0_10, .int .i64 a0_11, .slice A0_12 l0_12.length c0_12, .slice A0_13 l0_13.length c0_13]) (t := 40) ?_; intro gb104 w44 BK104 n0_ GW104 GE104; clear HB; have HB := n0_; clear n0_) | ((with_reducible refine gate_dst (N := 3) rfl ?_); refine be_ (N := 3) (cs := #[.int .i64 a1_0, .int .i64 a1_1, .int .i64 a1_2, .int .i64 a1_3, .string a1_4, .int .i64 a1_5, .int .i64 a1_6, .string a1_7, .int .i64 a1_8, .int .i64 a1_9, .int .i64 a1_10, .int .i64 a1_11, .slice A1_12 l1_12.length c1_12, .slice A1_13 l1_13.length c1_13]) (t := 40) ?_; intro gb105 hg w45 hbox hb; have BK105 := am_ (hbox); have GW105 := gw_ (w := w) hg; have GE105 := gw_ (w := w) hg; replace HB := bt_ hb; have NB104_105 := ne_ hg BK104; have NB105_104 := nf_ hg BK104; replace BK104 := bw_ BK104 hb; clear hb hbox hg; have hnb46 := NB104_105.out; have hnc46 := NB105_104.out; have hcz47_0 : w45.cell? ⟨gb104, 0, none⟩ = some (.int .i64 a0_0) := (blk_cell BK104.out 0).trans rfl; have hcz47_1 : w45.cell? ⟨gb104, 1, none⟩ = some (.int .i64 a0_1) := (blk_cell BK104.out 1).trans rfl; have hcz47_2 : w45.cell? ⟨gb104, 2, none⟩ = some (.int .i64 a0_2) := (blk_cell BK104.out 2).trans rfl; have hcz47_3 : w45.cell? ⟨gb104, 3, none⟩ = some (.int .i64 a0_3) := (blk_cell BK104.out 3).trans rfl; have hcz47_4 : w45.cell? ⟨gb104, 4, none⟩ = some (.string a0_4) := (blk_cell BK104.out 4).trans rfl; have hcz47_5 : w45.cell? ⟨gb104, 5, none⟩ = some (.int .i64 a0_5) := (blk_cell BK104.out 5).trans rfl; have hcz47_6 : w45.cell? ⟨gb104, 6, none⟩ = some (.int .i64 a0_6) := (blk_cell BK104.out 6).trans rfl; have hcz47_7 : w45.cell? ⟨gb104, 7, none⟩ = some (.string a0_7) := (blk_cell BK104.out 7).trans rfl; have hcz47_8 : w45.cell? ⟨gb104, 8, none⟩ = some (.int .i64 a0_8) := (blk_cell BK104.out 8).trans rfl; have hcz47_9 : w45.cell? ⟨gb104, 9, none⟩ = some (.int .i64 a0_9) := (blk_cell BK104.out 9).trans rfl; have hcz47_10 : w45.cell? ⟨gb104, 10, none⟩ = some (.int .i64 a0_10) := (blk_cell BK104.out 10).trans rfl; have hcz47_11 : w45.cell? ⟨gb104, 11, none⟩ = some (.int .i64 a0_11) := (blk_cell BK104.out 11).trans rfl; have hcz47_12 : w45.cell? ⟨gb104, 12, none⟩ = some (.slice A0_12 l0_12.length c0_12) := (blk_cell BK104.out 12).trans rfl; have hcz47_13 : w45.cell? ⟨gb104, 13, none⟩ = some (.slice A0_13 l0_13.length c0_13) := (blk_cell BK104.out 13).trans rfl; have hfz47_0 := blk_frozen BK104.out 0; have hfz47_1 := blk_frozen BK104.out 1; have hfz47_2 := blk_frozen BK104.out 2; have hfz47_3 := blk_frozen BK104.out 3; have hfz47_4 := blk_frozen BK104.out 4; have hfz47_5 := blk_frozen BK104.out 5; have hfz47_6 := blk_frozen BK104.out 6; have hfz47_7 := blk_frozen BK104.out 7; have hfz47_8 := blk_frozen BK104.out 8; have hfz47_9 := blk_frozen BK104.out 9; have hfz47_10 := blk_frozen BK104.out 10; have hfz47_11 := blk_frozen BK104.out 11; have hfz47_12 := blk_frozen BK104.out 12; have hfz47_13 := blk_frozen BK104.out 13; have hcz48_0 : w45.cell? ⟨gb105, 0, none⟩ = some (.int .i64 a1_0) := (blk_cell BK105.out 0).trans rfl; have hcz48_1 : w45.cell? ⟨gb105, 1, none⟩ = some (.int .i64 a1_1) := (blk_cell BK105.out 1).trans rfl; have hcz48_2 : w45.cell? ⟨gb105, 2, none⟩ = some (.int .i64 a1_2) := (blk_cell BK105.out 2).trans rfl; have hcz48_3 : w45.cell? ⟨gb105, 3, none⟩ = some (.int .i64 a1_3) := (blk_cell BK105.out 3).trans rfl; have hcz48_4 : w45.cell? ⟨gb105, 4, none⟩ = some (.string a1_4) := (blk_cell BK105.out 4).trans rfl; have hcz48_5 : w45.cell? ⟨gb105, 5, none⟩ = some (.int .i64 a1_5) := (blk_cell BK105.out 5).trans rfl; have hcz48_6 : w45.cell? ⟨gb105, 6, none⟩ = some (.int .i64 a1_6) := (blk_cell BK105.out 6).trans rfl; have hcz48_7 : w45.cell? ⟨gb105, 7, none⟩ = some (.string a1_7) := (blk_cell BK105.out 7).trans rfl; have hcz48_8 : w45.cell? ⟨gb105, 8, none⟩ = some (.int .i64 a1_8) := (blk_cell BK105.out 8).trans rfl; have hcz48_9 : w45.cell? ⟨gb105, 9, none⟩ = some (.int .i64 a1_9) := (blk_cell BK105.out 9).trans rfl; have hcz48_10 : w45.cell? ⟨gb105, 10, none⟩ = some (.int .i64 a1_10) := (blk_cell BK105.out 10).trans rfl; have hcz48_11 : w45.cell? ⟨gb105, 11, none⟩ = some (.int .i64 a1_11) := (blk_cell BK105.out 11).trans rfl; have hcz48_12 : w45.cell? ⟨gb105, 12, none⟩ = some (.slice A1_12 l1_12.length c1_12) := (blk_cell BK105.out 12).trans rfl; have hcz48_13 : w45.cell? ⟨gb105, 13, none⟩ = some (.slice A1_13 l1_13.length c1_13) := (blk_cell BK105.out 13).trans rfl; have hfz48_0 := blk_frozen BK105.out 0; have hfz48_1 := blk_frozen BK105.out 1; have hfz48_2 := blk_frozen BK105.out 2; have hfz48_3 := blk_frozen BK105.out 3; have hfz48_4 := blk_frozen BK105.out 4; have hfz48_5 := blk_frozen BK105.out 5; have hfz48_6 := blk_frozen BK105.out 6; have hfz48_7 := blk_frozen BK105.out 7; have hfz48_8 := blk_frozen BK105.out 8; have hfz48_9 := blk_frozen BK105.out 9; have hfz48_10 := blk_frozen BK105.out 10; have hfz48_11 := blk_frozen BK105.out 11; have hfz48_12 := blk_frozen BK105.out 12; have hfz48_13 := blk_frozen BK105.out 13))
  go_ret
  exact rt_
 rw [if_pos c6] at H
 have c6b0 : (a0_5 == a1_5) = true := beq_iff_eq.mpr c6
 have c6b1 : (a0_5 != a1_5) = false := bne_eq_false_iff_eq.mpr c6
 clear c6
 by_cases c7 : a0_6 = a1_6
 rotate_left
 ·rw [if_neg c7] at H
  have c7b0 : (a0_6 == a1_6) = false := beq_eq_false_iff_ne.mpr c7
  have c7b1 : (a0_6 != a1_6) = true := bne_iff_ne.mpr c7
  obtain rfl := Option.some.inj H
  go_enter Tryd.func18, Tryd.ntmps18
  go_wp2_with (first | ((with_reducible refine gate_dst (N := 2) rfl ?_); refine bx_ (w := w) (N := 2) (cs := #[.int .i64 a0_0, .int .i64 a0_1, .int .i64 a0_2, .int .i64 a0_3, .string a0_4, .int .i64 a0_5, .int .i64 a0_6, .string a0_7, .int .i64 a0_8, .int .i64 a0_9, .int .i64 a0_10, .int .i64 a0_11, .slice A0_12 l0_12.length c0_12, .slice A0_13 l0_13.length c0_13]) (t := 40) ?_; intro gb104 w39 BK104 n0_ GW104 GE104; clear HB; have HB := n0_; clear n0_) | ((with_reducible refine gate_dst (N := 3) rfl ?_); refine be_ (N := 3) (cs := #[.int .i64 a1_0, .int .i64 a1_1, .int .i64 a1_2, .int .i64 a1_3, .string a1_4, .int .i64 a1_5, .int .i64 a1_6, .string a1_7, .int .i64 a1_8, .int .i64 a1_9, .int .i64 a1_10, .int .i64 a1_11, .slice A1_12 l1_12.length c1_12, .slice A1_13 l1_13.length c1_13]) (t := 40) ?_; intro gb105 hg w40 hbox hb; have BK105 := am_ (hbox); have GW105 := gw_ (w := w) hg; have GE105 := gw_ (w := w) hg; replace HB := bt_ hb; have NB104_105 := ne_ hg BK104; have NB105_104 := nf_ hg BK104; replace BK104 := bw_ BK104 hb; clear hb hbox hg; have hnb41 := NB104_105.out; have hnc41 := NB105_104.out; have hcz42_0 : w40.cell? ⟨gb104, 0, none⟩ = some (.int .i64 a0_0) := (blk_cell BK104.out 0).trans rfl; have hcz42_1 : w40.cell? ⟨gb104, 1, none⟩ = some (.int .i64 a0_1) := (blk_cell BK104.out 1).trans rfl; have hcz42_2 : w40.cell? ⟨gb104, 2, none⟩ = some (.int .i64 a0_2) := (blk_cell BK104.out 2).trans rfl; have hcz42_3 : w40.cell? ⟨gb104, 3, none⟩ = some (.int .i64 a0_3) := (blk_cell BK104.out 3).trans rfl; have hcz42_4 : w40.cell? ⟨gb104, 4, none⟩ = some (.string a0_4) := (blk_cell BK104.out 4).trans rfl; have hcz42_5 : w40.cell? ⟨gb104, 5, none⟩ = some (.int .i64 a0_5) := (blk_cell BK104.out 5).trans rfl; have hcz42_6 : w40.cell? ⟨gb104, 6, none⟩ = some (.int .i64 a0_6) := (blk_cell BK104.out 6).trans rfl; have hcz42_7 : w40.cell? ⟨gb104, 7, none⟩ = some (.string a0_7) := (blk_cell BK104.out 7).trans rfl; have hcz42_8 : w40.cell? ⟨gb104, 8, none⟩ = some (.int .i64 a0_8) := (blk_cell BK104.out 8).trans rfl; have hcz42_9 : w40.cell? ⟨gb104, 9, none⟩ = some (.int .i64 a0_9) := (blk_cell BK104.out 9).trans rfl; have hcz42_10 : w40.cell? ⟨gb104, 10, none⟩ = some (.int .i64 a0_10) := (blk_cell BK104.out 10).trans rfl; have hcz42_11 : w40.cell? ⟨gb104, 11, none⟩ = some (.int .i64 a0_11) := (blk_cell BK104.out 11).trans rfl; have hcz42_12 : w40.cell? ⟨gb104, 12, none⟩ = some (.slice A0_12 l0_12.length c0_12) := (blk_cell BK104.out 12).trans rfl; have hcz42_13 : w40.cell? ⟨gb104, 13, none⟩ = some (.slice A0_13 l0_13.length c0_13) := (blk_cell BK104.out 13).trans rfl; have hfz42_0 := blk_frozen BK104.out 0; have hfz42_1 := blk_frozen BK104.out 1; have hfz42_2 := blk_frozen BK104.out 2; have hfz42_3 := blk_frozen BK104.out 3; have hfz42_4 := blk_frozen BK104.out 4; have hfz42_5 := blk_frozen BK104.out 5; have hfz42_6 := blk_frozen BK104.out 6; have hfz42_7 := blk_frozen BK104.out 7; have hfz42_8 := blk_frozen BK104.out 8; have hfz42_9 := blk_frozen BK104.out 9; have hfz42_10 := blk_frozen BK104.out 10; have hfz42_11 := blk_frozen BK104.out 11; have hfz42_12 := blk_frozen BK104.out 12; have hfz42_13 := blk_frozen BK104.out 13; have hcz43_0 : w40.cell? ⟨gb105, 0, none⟩ = some (.int .i64 a1_0) := (blk_cell BK105.out 0).trans rfl; have hcz43_1 : w40.cell? ⟨gb105, 1, none⟩ = some (.int .i64 a1_1) := (blk_cell BK105.out 1).trans rfl; have hcz43_2 : w40.cell? ⟨gb105, 2, none⟩ = some (.int .i64 a1_2) := (blk_cell BK105.out 2).trans rfl; have hcz43_3 : w40.cell? ⟨gb105, 3, none⟩ = some (.int .i64 a1_3) := (blk_cell BK105.out 3).trans rfl; have hcz43_4 : w40.cell? ⟨gb105, 4, none⟩ = some (.string a1_4) := (blk_cell BK105.out 4).trans rfl; have hcz43_5 : w40.cell? ⟨gb105, 5, none⟩ = some (.int .i64 a1_5) := (blk_cell BK105.out 5).trans rfl; have hcz43_6 : w40.cell? ⟨gb105, 6, none⟩ = some (.int .i64 a1_6) := (blk_cell BK105.out 6).trans rfl; have hcz43_7 : w40.cell? ⟨gb105, 7, none⟩ = some (.string a1_7) := (blk_cell BK105.out 7).trans rfl; have hcz43_8 : w40.cell? ⟨gb105, 8, none⟩ = some (.int .i64 a1_8) := (blk_cell BK105.out 8).trans rfl; have hcz43_9 : w40.cell? ⟨gb105, 9, none⟩ = some (.int .i64 a1_9) := (blk_cell BK105.out 9).trans rfl; have hcz43_10 : w40.cell? ⟨gb105, 10, none⟩ = some (.int .i64 a1_10) := (blk_cell BK105.out 10).trans rfl; have hcz43_11 : w40.cell? ⟨gb105, 11, none⟩ = some (.int .i64 a1_11) := (blk_cell BK105.out 11).trans rfl; have hcz43_12 : w40.cell? ⟨gb105, 12, none⟩ = some (.slice A1_12 l1_12.length c1_12) := (blk_cell BK105.out 12).trans rfl; have hcz43_13 : w40.cell? ⟨gb105, 13, none⟩ = some (.slice A1_13 l1_13.length c1_13) := (blk_cell BK105.out 13).trans rfl; have hfz43_0 := blk_frozen BK105.out 0; have hfz43_1 := blk_frozen BK105.out 1; have hfz43_2 := blk_frozen BK105.out 2; have hfz43_3 := blk_frozen BK105.out 3; have hfz43_4 := blk_frozen BK105.out 4; have hfz43_5 := blk_frozen BK105.out 5; have hfz43_6 := blk_frozen BK105.out 6; have hfz43_7 := blk_frozen BK105.out 7; have hfz43_8 := blk_frozen BK105.out 8; have hfz43_9 := blk_frozen BK105.out 9; have hfz43_10 := blk_frozen BK105.out 10; have hfz43_11 := blk_frozen BK105.out 11; have hfz43_12 := blk_frozen BK105.out 12; have hfz43_13 := blk_frozen BK105.out 13))
  go_ret
  exact rt_
 rw [if_pos c7] at H
 have c7b0 : (a0_6 == a1_6) = true := beq_iff_eq.mpr c7
 have c7b1 : (a0_6 != a1_6) = false := bne_eq_false_iff_eq.mpr c7
 clear c7
 by_cases c8 : a0_7.toList = a1_7.toList
 rotate_left
 ·rw [if_neg c8] at H
  have c8b0 : (a0_7.toList == a1_7.toList) = false := beq_eq_false_iff_ne.mpr c8
  have c8b1 : (a0_7.toList != a1_7.toList) = true := bne_iff_ne.mpr c8
  obtain rfl := Option.some.inj H
  go_enter Tryd.func18, Tryd.ntmps18
  go_wp2_with (first | ((with_reducible refine gate_dst (N := 2) rfl ?_); refine bx_ (w := w) (N := 2) (cs := #[.int .i64 a0_0, .int .i64 a0_1, .int .i64 a0_2, .int .i64 a0_3, .string a0_4, .int .i64 a0_5, .int .i64 a0_6, .string a0_7, .int .i64 a0_8, .int .i64 a0_9, .int .i64 a0_10, .int .i64 a0_11, .slice A0_12 l0_12.length c0_12, .slice A0_13 l0_13.length c0_13]) (t := 40) ?_; intro gb104 w34 BK104 n0_ GW104 GE104; clear HB; have HB := n0_; clear n0_) | ((with_reducible refine gate_dst (N := 3) rfl ?_); refine be_ (N := 3) (cs := #[.int .i64 a1_0, .int .i64 a1_1, .int .i64 a1_2, .int .i64 a1_3, .string a1_4, .int .i64 a1_5, .int .i64 a1_6, .string a1_7, .int .i64 a1_8, .int .i64 a1_9, .int .i64 a1_10, .int .i64 a1_11, .slice A1_12 l1_12.length c1_12, .slice A1_13 l1_13.length c1_13]) (t := 40) ?_; intro gb105 hg w35 hbox hb; have BK105 := am_ (hbox); have GW105 := gw_ (w := w) hg; have GE105 := gw_ (w := w) hg; replace HB := bt_ hb; have NB104_105 := ne_ hg BK104; have NB105_104 := nf_ hg BK104; replace BK104 := bw_ BK104 hb; clear hb hbox hg; have hnb36 := NB104_105.out; have hnc36 := NB105_104.out; have hcz37_0 : w35.cell? ⟨gb104, 0, none⟩ = some (.int .i64 a0_0) := (blk_cell BK104.out 0).trans rfl; have hcz37_1 : w35.cell? ⟨gb104, 1, none⟩ = some (.int .i64 a0_1) := (blk_cell BK104.out 1).trans rfl; have hcz37_2 : w35.cell? ⟨gb104, 2, none⟩ = some (.int .i64 a0_2) := (blk_cell BK104.out 2).trans rfl; have hcz37_3 : w35.cell? ⟨gb104, 3, none⟩ = some (.int .i64 a0_3) := (blk_cell BK104.out 3).trans rfl; have hcz37_4 : w35.cell? ⟨gb104, 4, none⟩ = some (.string a0_4) := (blk_cell BK104.out 4).trans rfl; have hcz37_5 : w35.cell? ⟨gb104, 5, none⟩ = some (.int .i64 a0_5) := (blk_cell BK104.out 5).trans rfl; have hcz37_6 : w35.cell? ⟨gb104, 6, none⟩ = some (.int .i64 a0_6) := (blk_cell BK104.out 6).trans rfl; have hcz37_7 : w35.cell? ⟨gb104, 7, none⟩ = some (.string a0_7) := (blk_cell BK104.out 7).trans rfl; have hcz37_8 : w35.cell? ⟨gb104, 8, none⟩ = some (.int .i64 a0_8) := (blk_cell BK104.out 8).trans rfl; have hcz37_9 : w35.cell? ⟨gb104, 9, none⟩ = some (.int .i64 a0_9) := (blk_cell BK104.out 9).trans rfl; have hcz37_10 : w35.cell? ⟨gb104, 10, none⟩ = some (.int .i64 a0_10) := (blk_cell BK104.out 10).trans rfl; have hcz37_11 : w35.cell? ⟨gb104, 11, none⟩ = some (.int .i64 a0_11) := (blk_cell BK104.out 11).trans rfl; have hcz37_12 : w35.cell? ⟨gb104, 12, none⟩ = some (.slice A0_12 l0_12.length c0_12) := (blk_cell BK104.out 12).trans rfl; have hcz37_13 : w35.cell? ⟨gb104, 13, none⟩ = some (.slice A0_13 l0_13.length c0_13) := (blk_cell BK104.out 13).trans rfl; have hfz37_0 := blk_frozen BK104.out 0; have hfz37_1 := blk_frozen BK104.out 1; have hfz37_2 := blk_frozen BK104.out 2; have hfz37_3 := blk_frozen BK104.out 3; have hfz37_4 := blk_frozen BK104.out 4; have hfz37_5 := blk_frozen BK104.out 5; have hfz37_6 := blk_frozen BK104.out 6; have hfz37_7 := blk_frozen BK104.out 7; have hfz37_8 := blk_frozen BK104.out 8; have hfz37_9 := blk_frozen BK104.out 9; have hfz37_10 := blk_frozen BK104.out 10; have hfz37_11 := blk_frozen BK104.out 11; have hfz37_12 := blk_frozen BK104.out 12; have hfz37_13 := blk_frozen BK104.out 13; have hcz38_0 : w35.cell? ⟨gb105, 0, none⟩ = some (.int .i64 a1_0) := (blk_cell BK105.out 0).trans rfl; have hcz38_1 : w35.cell? ⟨gb105, 1, none⟩ = some (.int .i64 a1_1) := (blk_cell BK105.out 1).trans rfl; have hcz38_2 : w35.cell? ⟨gb105, 2, none⟩ = some (.int .i64 a1_2) := (blk_cell BK105.out 2).trans rfl; have hcz38_3 : w35.cell? ⟨gb105, 3, none⟩ = some (.int .i64 a1_3) := (blk_cell BK105.out 3).trans rfl; have hcz38_4 : w35.cell? ⟨gb105, 4, none⟩ = some (.string a1_4) := (blk_cell BK105.out 4).trans rfl; have hcz38_5 : w35.cell? ⟨gb105, 5, none⟩ = some (.int .i64 a1_5) := (blk_cell BK105.out 5).trans rfl; have hcz38_6 : w35.cell? ⟨gb105, 6, none⟩ = some (.int .i64 a1_6) := (blk_cell BK105.out 6).trans rfl; have hcz38_7 : w35.cell? ⟨gb105, 7, none⟩ = some (.string a1_7) := (blk_cell BK105.out 7).trans rfl; have hcz38_8 : w35.cell? ⟨gb105, 8, none⟩ = some (.int .i64 a1_8) := (blk_cell BK105.out 8).trans rfl; have hcz38_9 : w35.cell? ⟨gb105, 9, none⟩ = some (.int .i64 a1_9) := (blk_cell BK105.out 9).trans rfl; have hcz38_10 : w35.cell? ⟨gb105, 10, none⟩ = some (.int .i64 a1_10) := (blk_cell BK105.out 10).trans rfl; have hcz38_11 : w35.cell? ⟨gb105, 11, none⟩ = some (.int .i64 a1_11) := (blk_cell BK105.out 11).trans rfl; have hcz38_12 : w35.cell? ⟨gb105, 12, none⟩ = some (.slice A1_12 l1_12.length c1_12) := (blk_cell BK105.out 12).trans rfl; have hcz38_13 : w35.cell? ⟨gb105, 13, none⟩ = some (.slice A1_13 l1_13.length c1_13) := (blk_cell BK105.out 13).trans rfl; have hfz38_0 := blk_frozen BK105.out 0; have hfz38_1 := blk_frozen BK105.out 1; have hfz38_2 := blk_frozen BK105.out 2; have hfz38_3 := blk_frozen BK105.out 3; have hfz38_4 := blk_frozen BK105.out 4; have hfz38_5 := blk_frozen BK105.out 5; have hfz38_6 := blk_frozen BK105.out 6; have hfz38_7 := blk_frozen BK105.out 7; have hfz38_8 := blk_frozen BK105.out 8; have hfz38_9 := blk_frozen BK105.out 9; have hfz38_10 := blk_frozen BK105.out 10; have hfz38_11 := blk_frozen BK105.out 11; have hfz38_12 := blk_frozen BK105.out 12; have hfz38_13 := blk_frozen BK105.out 13))
  go_ret
  exact rt_
 rw [if_pos c8] at H
 have c8b0 : (a0_7.toList == a1_7.toList) = true := beq_iff_eq.mpr c8
 have c8b1 : (a0_7.toList != a1_7.toList) = false := bne_eq_false_iff_eq.mpr c8
 clear c8
 by_cases c9 : a0_8 = a1_8
 rotate_left
 ·rw [if_neg c9] at H
  have c9b0 : (a0_8 == a1_8) = false := beq_eq_false_iff_ne.mpr c9
  have c9b1 : (a0_8 != a1_8) = true := bne_iff_ne.mpr c9
  obtain rfl := Option.some.inj H
  go_enter Tryd.func18, Tryd.ntmps18
  go_wp2_with (first | ((with_reducible refine gate_dst (N := 2) rfl ?_); refine bx_ (w := w) (N := 2) (cs := #[.int .i64 a0_0, .int .i64 a0_1, .int .i64 a0_2, .int .i64 a0_3, .string a0_4, .int .i64 a0_5, .int .i64 a0_6, .string a0_7, .int .i64 a0_8, .int .i64 a0_9, .int .i64 a0_10, .int .i64 a0_11, .slice A0_12 l0_12.length c0_12, .slice A0_13 l0_13.length c0_13]) (t := 40) ?_; intro gb104 w29 BK104 n0_ GW104 GE104; clear HB; have HB := n0_; clear n0_) | ((with_reducible refine gate_dst (N := 3) rfl ?_); refine be_ (N := 3) (cs := #[.int .i64 a1_0, .int .i64 a1_1, .int .i64 a1_2, .int .i64 a1_3, .string a1_4, .int .i64 a1_5, .int .i64 a1_6, .string a1_7, .int .i64 a1_8, .int .i64 a1_9, .int .i64 a1_10, .int .i64 a1_11, .slice A1_12 l1_12.length c1_12, .slice A1_13 l1_13.length c1_13]) (t := 40) ?_; intro gb105 hg w30 hbox hb; have BK105 := am_ (hbox); have GW105 := gw_ (w := w) hg; have GE105 := gw_ (w := w) hg; replace HB := bt_ hb; have NB104_105 := ne_ hg BK104; have NB105_104 := nf_ hg BK104; replace BK104 := bw_ BK104 hb; clear hb hbox hg; have hnb31 := NB104_105.out; have hnc31 := NB105_104.out; have hcz32_0 : w30.cell? ⟨gb104, 0, none⟩ = some (.int .i64 a0_0) := (blk_cell BK104.out 0).trans rfl; have hcz32_1 : w30.cell? ⟨gb104, 1, none⟩ = some (.int .i64 a0_1) := (blk_cell BK104.out 1).trans rfl; have hcz32_2 : w30.cell? ⟨gb104, 2, none⟩ = some (.int .i64 a0_2) := (blk_cell BK104.out 2).trans rfl; have hcz32_3 : w30.cell? ⟨gb104, 3, none⟩ = some (.int .i64 a0_3) := (blk_cell BK104.out 3).trans rfl; have hcz32_4 : w30.cell? ⟨gb104, 4, none⟩ = some (.string a0_4) := (blk_cell BK104.out 4).trans rfl; have hcz32_5 : w30.cell? ⟨gb104, 5, none⟩ = some (.int .i64 a0_5) := (blk_cell BK104.out 5).trans rfl; have hcz32_6 : w30.cell? ⟨gb104, 6, none⟩ = some (.int .i64 a0_6) := (blk_cell BK104.out 6).trans rfl; have hcz32_7 : w30.cell? ⟨gb104, 7, none⟩ = some (.string a0_7) := (blk_cell BK104.out 7).trans rfl; have hcz32_8 : w30.cell? ⟨gb104, 8, none⟩ = some (.int .i64 a0_8) := (blk_cell BK104.out 8).trans rfl; have hcz32_9 : w30.cell? ⟨gb104, 9, none⟩ = some (.int .i64 a0_9) := (blk_cell BK104.out 9).trans rfl; have hcz32_10 : w30.cell? ⟨gb104, 10, none⟩ = some (.int .i64 a0_10) := (blk_cell BK104.out 10).trans rfl; have hcz32_11 : w30.cell? ⟨gb104, 11, none⟩ = some (.int .i64 a0_11) := (blk_cell BK104.out 11).trans rfl; have hcz32_12 : w30.cell? ⟨gb104, 12, none⟩ = some (.slice A0_12 l0_12.length c0_12) := (blk_cell BK104.out 12).trans rfl; have hcz32_13 : w30.cell? ⟨gb104, 13, none⟩ = some (.slice A0_13 l0_13.length c0_13) := (blk_cell BK104.out 13).trans rfl; have hfz32_0 := blk_frozen BK104.out 0; have hfz32_1 := blk_frozen BK104.out 1; have hfz32_2 := blk_frozen BK104.out 2; have hfz32_3 := blk_frozen BK104.out 3; have hfz32_4 := blk_frozen BK104.out 4; have hfz32_5 := blk_frozen BK104.out 5; have hfz32_6 := blk_frozen BK104.out 6; have hfz32_7 := blk_frozen BK104.out 7; have hfz32_8 := blk_frozen BK104.out 8; have hfz32_9 := blk_frozen BK104.out 9; have hfz32_10 := blk_frozen BK104.out 10; have hfz32_11 := blk_frozen BK104.out 11; have hfz32_12 := blk_frozen BK104.out 12; have hfz32_13 := blk_frozen BK104.out 13; have hcz33_0 : w30.cell? ⟨gb105, 0, none⟩ = some (.int .i64 a1_0) := (blk_cell BK105.out 0).trans rfl; have hcz33_1 : w30.cell? ⟨gb105, 1, none⟩ = some (.int .i64 a1_1) := (blk_cell BK105.out 1).trans rfl; have hcz33_2 : w30.cell? ⟨gb105, 2, none⟩ = some (.int .i64 a1_2) := (blk_cell BK105.out 2).trans rfl; have hcz33_3 : w30.cell? ⟨gb105, 3, none⟩ = some (.int .i64 a1_3) := (blk_cell BK105.out 3).trans rfl; have hcz33_4 : w30.cell? ⟨gb105, 4, none⟩ = some (.string a1_4) := (blk_cell BK105.out 4).trans rfl; have hcz33_5 : w30.cell? ⟨gb105, 5, none⟩ = some (.int .i64 a1_5) := (blk_cell BK105.out 5).trans rfl; have hcz33_6 : w30.cell? ⟨gb105, 6, none⟩ = some (.int .i64 a1_6) := (blk_cell BK105.out 6).trans rfl; have hcz33_7 : w30.cell? ⟨gb105, 7, none⟩ = some (.string a1_7) := (blk_cell BK105.out 7).trans rfl; have hcz33_8 : w30.cell? ⟨gb105, 8, none⟩ = some (.int .i64 a1_8) := (blk_cell BK105.out 8).trans rfl; have hcz33_9 : w30.cell? ⟨gb105, 9, none⟩ = some (.int .i64 a1_9) := (blk_cell BK105.out 9).trans rfl; have hcz33_10 : w30.cell? ⟨gb105, 10, none⟩ = some (.int .i64 a1_10) := (blk_cell BK105.out 10).trans rfl; have hcz33_11 : w30.cell? ⟨gb105, 11, none⟩ = some (.int .i64 a1_11) := (blk_cell BK105.out 11).trans rfl; have hcz33_12 : w30.cell? ⟨gb105, 12, none⟩ = some (.slice A1_12 l1_12.length c1_12) := (blk_cell BK105.out 12).trans rfl; have hcz33_13 : w30.cell? ⟨gb105, 13, none⟩ = some (.slice A1_13 l1_13.length c1_13) := (blk_cell BK105.out 13).trans rfl; have hfz33_0 := blk_frozen BK105.out 0; have hfz33_1 := blk_frozen BK105.out 1; have hfz33_2 := blk_frozen BK105.out 2; have hfz33_3 := blk_frozen BK105.out 3; have hfz33_4 := blk_frozen BK105.out 4; have hfz33_5 := blk_frozen BK105.out 5; have hfz33_6 := blk_frozen BK105.out 6; have hfz33_7 := blk_frozen BK105.out 7; have hfz33_8 := blk_frozen BK105.out 8; have hfz33_9 := blk_frozen BK105.out 9; have hfz33_10 := blk_frozen BK105.out 10; have hfz33_11 := blk_frozen BK105.out 11; have hfz33_12 := blk_frozen BK105.out 12; have hfz33_13 := blk_frozen BK105.out 13))
  go_ret
  exact rt_
 rw [if_pos c9] at H
 have c9b0 : (a0_8 == a1_8) = true := beq_iff_eq.mpr c9
 have c9b1 : (a0_8 != a1_8) = false := bne_eq_false_iff_eq.mpr c9
 clear c9
 by_cases c10 : (a0_9 == a1_9 && (a0_10 == a1_10 && (a0_11 == a1_11))) = true
 rotate_left
 ·rw [if_neg c10] at H
  have c10b0 : (a0_9 == a1_9 && (a0_10 == a1_10 && (a0_11 == a1_11))) = false := by simpa using c10
  (try (have c10b1 : decide (a0_9 = a1_9 && (a0_10 == a1_10 && (a0_11 == a1_11))) = false := by simpa using c10))
  (try (have c10b2 : (a0_9 == a1_9 && (a0_10 == a1_10 && (a0_11 == a1_11))) = false := by simpa using c10))
  (try (have c10b3 : ¬ (a0_9 = a1_9 && (a0_10 == a1_10 && (a0_11 == a1_11))) := by simpa using c10))
  clear c10
  obtain rfl := Option.some.inj H
  go_enter Tryd.func18, Tryd.ntmps18
  go_wp2_with (first | ((with_reducible refine gate_dst (N := 2) rfl ?_); refine bx_ (w := w) (N := 2) (cs := #[.int .i64 a0_0, .int .i64 a0_1, .int .i64 a0_2, .int .i64 a0_3, .string a0_4, .int .i64 a0_5, .int .i64 a0_6, .string a0_7, .int .i64 a0_8, .int .i64 a0_9, .int .i64 a0_10, .int .i64 a0_11, .slice A0_12 l0_12.length c0_12, .slice A0_13 l0_13.length c0_13]) (t := 40) ?_; intro gb104 w24 BK104 n0_ GW104 GE104; clear HB; have HB := n0_; clear n0_) | ((with_reducible refine gate_dst (N := 3) rfl ?_); refine be_ (N := 3) (cs := #[.int .i64 a1_0, .int .i64 a1_1, .int .i64 a1_2, .int .i64 a1_3, .string a1_4, .int .i64 a1_5, .int .i64 a1_6, .string a1_7, .int .i64 a1_8, .int .i64 a1_9, .int .i64 a1_10, .int .i64 a1_11, .slice A1_12 l1_12.length c1_12, .slice A1_13 l1_13.length c1_13]) (t := 40) ?_; intro gb105 hg w25 hbox hb; have BK105 := am_ (hbox); have GW105 := gw_ (w := w) hg; have GE105 := gw_ (w := w) hg; replace HB := bt_ hb; have NB104_105 := ne_ hg BK104; have NB105_104 := nf_ hg BK104; replace BK104 := bw_ BK104 hb; clear hb hbox hg; have hnb26 := NB104_105.out; have hnc26 := NB105_104.out; have hcz27_0 : w25.cell? ⟨gb104, 0, none⟩ = some (.int .i64 a0_0) := (blk_cell BK104.out 0).trans rfl; have hcz27_1 : w25.cell? ⟨gb104, 1, none⟩ = some (.int .i64 a0_1) := (blk_cell BK104.out 1).trans rfl; have hcz27_2 : w25.cell? ⟨gb104, 2, none⟩ = some (.int .i64 a0_2) := (blk_cell BK104.out 2).trans rfl; have hcz27_3 : w25.cell? ⟨gb104, 3, none⟩ = some (.int .i64 a0_3) := (blk_cell BK104.out 3).trans rfl; have hcz27_4 : w25.cell? ⟨gb104, 4, none⟩ = some (.string a0_4) := (blk_cell BK104.out 4).trans rfl; have hcz27_5 : w25.cell? ⟨gb104, 5, none⟩ = some (.int .i64 a0_5) := (blk_cell BK104.out 5).trans rfl; have hcz27_6 : w25.cell? ⟨gb104, 6, none⟩ = some (.int .i64 a0_6) := (blk_cell BK104.out 6).trans rfl; have hcz27_7 : w25.cell? ⟨gb104, 7, none⟩ = some (.string a0_7) := (blk_cell BK104.out 7).trans rfl; have hcz27_8 : w25.cell? ⟨gb104, 8, none⟩ = some (.int .i64 a0_8) := (blk_cell BK104.out 8).trans rfl; have hcz27_9 : w25.cell? ⟨gb104, 9, none⟩ = some (.int .i64 a0_9) := (blk_cell BK104.out 9).trans rfl; have hcz27_10 : w25.cell? ⟨gb104, 10, none⟩ = some (.int .i64 a0_10) := (blk_cell BK104.out 10).trans rfl; have hcz27_11 : w25.cell? ⟨gb104, 11, none⟩ = some (.int .i64 a0_11) := (blk_cell BK104.out 11).trans rfl; have hcz27_12 : w25.cell? ⟨gb104, 12, none⟩ = some (.slice A0_12 l0_12.length c0_12) := (blk_cell BK104.out 12).trans rfl; have hcz27_13 : w25.cell? ⟨gb104, 13, none⟩ = some (.slice A0_13 l0_13.length c0_13) := (blk_cell BK104.out 13).trans rfl; have hfz27_0 := blk_frozen BK104.out 0; have hfz27_1 := blk_frozen BK104.out 1; have hfz27_2 := blk_frozen BK104.out 2; have hfz27_3 := blk_frozen BK104.out 3; have hfz27_4 := blk_frozen BK104.out 4; have hfz27_5 := blk_frozen BK104.out 5; have hfz27_6 := blk_frozen BK104.out 6; have hfz27_7 := blk_frozen BK104.out 7; have hfz27_8 := blk_frozen BK104.out 8; have hfz27_9 := blk_frozen BK104.out 9; have hfz27_10 := blk_frozen BK104.out 10; have hfz27_11 := blk_frozen BK104.out 11; have hfz27_12 := blk_frozen BK104.out 12; have hfz27_13 := blk_frozen BK104.out 13; have hcz28_0 : w25.cell? ⟨gb105, 0, none⟩ = some (.int .i64 a1_0) := (blk_cell BK105.out 0).trans rfl; have hcz28_1 : w25.cell? ⟨gb105, 1, none⟩ = some (.int .i64 a1_1) := (blk_cell BK105.out 1).trans rfl; have hcz28_2 : w25.cell? ⟨gb105, 2, none⟩ = some (.int .i64 a1_2) := (blk_cell BK105.out 2).trans rfl; have hcz28_3 : w25.cell? ⟨gb105, 3, none⟩ = some (.int .i64 a1_3) := (blk_cell BK105.out 3).trans rfl; have hcz28_4 : w25.cell? ⟨gb105, 4, none⟩ = some (.string a1_4) := (blk_cell BK105.out 4).trans rfl; have hcz28_5 : w25.cell? ⟨gb105, 5, none⟩ = some (.int .i64 a1_5) := (blk_cell BK105.out 5).trans rfl; have hcz28_6 : w25.cell? ⟨gb105, 6, none⟩ = some (.int .i64 a1_6) := (blk_cell BK105.out 6).trans rfl; have hcz28_7 : w25.cell? ⟨gb105, 7, none⟩ = some (.string a1_7) := (blk_cell BK105.out 7).trans rfl; have hcz28_8 : w25.cell? ⟨gb105, 8, none⟩ = some (.int .i64 a1_8) := (blk_cell BK105.out 8).trans rfl; have hcz28_9 : w25.cell? ⟨gb105, 9, none⟩ = some (.int .i64 a1_9) := (blk_cell BK105.out 9).trans rfl; have hcz28_10 : w25.cell? ⟨gb105, 10, none⟩ = some (.int .i64 a1_10) := (blk_cell BK105.out 10).trans rfl; have hcz28_11 : w25.cell? ⟨gb105, 11, none⟩ = some (.int .i64 a1_11) := (blk_cell BK105.out 11).trans rfl; have hcz28_12 : w25.cell? ⟨gb105, 12, none⟩ = some (.slice A1_12 l1_12.length c1_12) := (blk_cell BK105.out 12).trans rfl; have hcz28_13 : w25.cell? ⟨gb105, 13, none⟩ = some (.slice A1_13 l1_13.length c1_13) := (blk_cell BK105.out 13).trans rfl; have hfz28_0 := blk_frozen BK105.out 0; have hfz28_1 := blk_frozen BK105.out 1; have hfz28_2 := blk_frozen BK105.out 2; have hfz28_3 := blk_frozen BK105.out 3; have hfz28_4 := blk_frozen BK105.out 4; have hfz28_5 := blk_frozen BK105.out 5; have hfz28_6 := blk_frozen BK105.out 6; have hfz28_7 := blk_frozen BK105.out 7; have hfz28_8 := blk_frozen BK105.out 8; have hfz28_9 := blk_frozen BK105.out 9; have hfz28_10 := blk_frozen BK105.out 10; have hfz28_11 := blk_frozen BK105.out 11; have hfz28_12 := blk_frozen BK105.out 12; have hfz28_13 := blk_frozen BK105.out 13))
  go_ret
  exact rt_
 rw [if_pos c10] at H
 have c10b0 : (a0_9 == a1_9 && (a0_10 == a1_10 && (a0_11 == a1_11))) = true := c10
 (try (have c10b1 : decide (a0_9 = a1_9 && (a0_10 == a1_10 && (a0_11 == a1_11))) = true := by simpa using c10))
 (try (have c10b2 : (a0_9 == a1_9 && (a0_10 == a1_10 && (a0_11 == a1_11))) = true := by simpa using c10))
 clear c10
 obtain ⟨t106, A11, H⟩ := bs_ H
 by_cases c12 : t106 = true
 rotate_left
 ·replace c12 := Bool.eq_false_iff.mpr c12
  subst c12
  replace H := if_ H
  obtain rfl := Option.some.inj H
  go_enter Tryd.func18, Tryd.ntmps18
  go_wp2_with (first | ((with_reducible refine gate_dst (N := 2) rfl ?_); refine bx_ (w := w) (N := 2) (cs := #[.int .i64 a0_0, .int .i64 a0_1, .int .i64 a0_2, .int .i64 a0_3, .string a0_4, .int .i64 a0_5, .int .i64 a0_6, .string a0_7, .int .i64 a0_8, .int .i64 a0_9, .int .i64 a0_10, .int .i64 a0_11, .slice A0_12 l0_12.length c0_12, .slice A0_13 l0_13.length c0_13]) (t := 40) ?_; intro gb104 w19 BK104 n0_ GW104 GE104; clear HB; have HB := n0_; clear n0_) | ((with_reducible refine gate_dst (N := 3) rfl ?_); refine be_ (N := 3) (cs := #[.int .i64 a1_0, .int .i64 a1_1, .int .i64 a1_2, .int .i64 a1_3, .string a1_4, .int .i64 a1_5, .int .i64 a1_6, .string a1_7, .int .i64 a1_8, .int .i64 a1_9, .int .i64 a1_10, .int .i64 a1_11, .slice A1_12 l1_12.length c1_12, .slice A1_13 l1_13.length c1_13]) (t := 40) ?_; intro gb105 hg w20 hbox hb; have BK105 := am_ (hbox); have GW105 := gw_ (w := w) hg; have GE105 := gw_ (w := w) hg; replace HB := bt_ hb; have NB104_105 := ne_ hg BK104; have NB105_104 := nf_ hg BK104; replace BK104 := bw_ BK104 hb; clear hb hbox hg; have hnb21 := NB104_105.out; have hnc21 := NB105_104.out; have hcz22_0 : w20.cell? ⟨gb104, 0, none⟩ = some (.int .i64 a0_0) := (blk_cell BK104.out 0).trans rfl; have hcz22_1 : w20.cell? ⟨gb104, 1, none⟩ = some (.int .i64 a0_1) := (blk_cell BK104.out 1).trans rfl; have hcz22_2 : w20.cell? ⟨gb104, 2, none⟩ = some (.int .i64 a0_2) := (blk_cell BK104.out 2).trans rfl; have hcz22_3 : w20.cell? ⟨gb104, 3, none⟩ = some (.int .i64 a0_3) := (blk_cell BK104.out 3).trans rfl; have hcz22_4 : w20.cell? ⟨gb104, 4, none⟩ = some (.string a0_4) := (blk_cell BK104.out 4).trans rfl; have hcz22_5 : w20.cell? ⟨gb104, 5, none⟩ = some (.int .i64 a0_5) := (blk_cell BK104.out 5).trans rfl; have hcz22_6 : w20.cell? ⟨gb104, 6, none⟩ = some (.int .i64 a0_6) := (blk_cell BK104.out 6).trans rfl; have hcz22_7 : w20.cell? ⟨gb104, 7, none⟩ = some (.string a0_7) := (blk_cell BK104.out 7).trans rfl; have hcz22_8 : w20.cell? ⟨gb104, 8, none⟩ = some (.int .i64 a0_8) := (blk_cell BK104.out 8).trans rfl; have hcz22_9 : w20.cell? ⟨gb104, 9, none⟩ = some (.int .i64 a0_9) := (blk_cell BK104.out 9).trans rfl; have hcz22_10 : w20.cell? ⟨gb104, 10, none⟩ = some (.int .i64 a0_10) := (blk_cell BK104.out 10).trans rfl; have hcz22_11 : w20.cell? ⟨gb104, 11, none⟩ = some (.int .i64 a0_11) := (blk_cell BK104.out 11).trans rfl; have hcz22_12 : w20.cell? ⟨gb104, 12, none⟩ = some (.slice A0_12 l0_12.length c0_12) := (blk_cell BK104.out 12).trans rfl; have hcz22_13 : w20.cell? ⟨gb104, 13, none⟩ = some (.slice A0_13 l0_13.length c0_13) := (blk_cell BK104.out 13).trans rfl; have hfz22_0 := blk_frozen BK104.out 0; have hfz22_1 := blk_frozen BK104.out 1; have hfz22_2 := blk_frozen BK104.out 2; have hfz22_3 := blk_frozen BK104.out 3; have hfz22_4 := blk_frozen BK104.out 4; have hfz22_5 := blk_frozen BK104.out 5; have hfz22_6 := blk_frozen BK104.out 6; have hfz22_7 := blk_frozen BK104.out 7; have hfz22_8 := blk_frozen BK104.out 8; have hfz22_9 := blk_frozen BK104.out 9; have hfz22_10 := blk_frozen BK104.out 10; have hfz22_11 := blk_frozen BK104.out 11; have hfz22_12 := blk_frozen BK104.out 12; have hfz22_13 := blk_frozen BK104.out 13; have hcz23_0 : w20.cell? ⟨gb105, 0, none⟩ = some (.int .i64 a1_0) := (blk_cell BK105.out 0).trans rfl; have hcz23_1 : w20.cell? ⟨gb105, 1, none⟩ = some (.int .i64 a1_1) := (blk_cell BK105.out 1).trans rfl; have hcz23_2 : w20.cell? ⟨gb105, 2, none⟩ = some (.int .i64 a1_2) := (blk_cell BK105.out 2).trans rfl; have hcz23_3 : w20.cell? ⟨gb105, 3, none⟩ = some (.int .i64 a1_3) := (blk_cell BK105.out 3).trans rfl; have hcz23_4 : w20.cell? ⟨gb105, 4, none⟩ = some (.string a1_4) := (blk_cell BK105.out 4).trans rfl; have hcz23_5 : w20.cell? ⟨gb105, 5, none⟩ = some (.int .i64 a1_5) := (blk_cell BK105.out 5).trans rfl; have hcz23_6 : w20.cell? ⟨gb105, 6, none⟩ = some (.int .i64 a1_6) := (blk_cell BK105.out 6).trans rfl; have hcz23_7 : w20.cell? ⟨gb105, 7, none⟩ = some (.string a1_7) := (blk_cell BK105.out 7).trans rfl; have hcz23_8 : w20.cell? ⟨gb105, 8, none⟩ = some (.int .i64 a1_8) := (blk_cell BK105.out 8).trans rfl; have hcz23_9 : w20.cell? ⟨gb105, 9, none⟩ = some (.int .i64 a1_9) := (blk_cell BK105.out 9).trans rfl; have hcz23_10 : w20.cell? ⟨gb105, 10, none⟩ = some (.int .i64 a1_10) := (blk_cell BK105.out 10).trans rfl; have hcz23_11 : w20.cell? ⟨gb105, 11, none⟩ = some (.int .i64 a1_11) := (blk_cell BK105.out 11).trans rfl; have hcz23_12 : w20.cell? ⟨gb105, 12, none⟩ = some (.slice A1_12 l1_12.length c1_12) := (blk_cell BK105.out 12).trans rfl; have hcz23_13 : w20.cell? ⟨gb105, 13, none⟩ = some (.slice A1_13 l1_13.length c1_13) := (blk_cell BK105.out 13).trans rfl; have hfz23_0 := blk_frozen BK105.out 0; have hfz23_1 := blk_frozen BK105.out 1; have hfz23_2 := blk_frozen BK105.out 2; have hfz23_3 := blk_frozen BK105.out 3; have hfz23_4 := blk_frozen BK105.out 4; have hfz23_5 := blk_frozen BK105.out 5; have hfz23_6 := blk_frozen BK105.out 6; have hfz23_7 := blk_frozen BK105.out 7; have hfz23_8 := blk_frozen BK105.out 8; have hfz23_9 := blk_frozen BK105.out 9; have hfz23_10 := blk_frozen BK105.out 10; have hfz23_11 := blk_frozen BK105.out 11; have hfz23_12 := blk_frozen BK105.out 12; have hfz23_13 := blk_frozen BK105.out 13) | (go_at_call 42; (with_reducible refine (computusref23_Texts.calls k _ _ l0_12 _ _ l1_12 false _ ?side1 ?side2 ?side3 ?side4 A11.out).mono ?_); (case side1 => exact ck_ (Kd.C_below HR0_12.out HB.out)); (case side2 => exact HC0_12.out); (case side3 => exact ck_ (Kd.C_below HR1_12.out HB.out)); (case side4 => exact HC1_12.out); rintro e w' ⟨rfl, ⟨nd, rfl⟩⟩))
  go_ret
  exact rt_
 subst c12
 replace H := it_ H
 obtain ⟨t107, A13, H⟩ := bs_ H
 obtain rfl := Option.some.inj H
 go_enter Tryd.func18, Tryd.ntmps18
 go_wp2_with (first | ((with_reducible refine gate_dst (N := 2) rfl ?_); refine bx_ (w := w) (N := 2) (cs := #[.int .i64 a0_0, .int .i64 a0_1, .int .i64 a0_2, .int .i64 a0_3, .string a0_4, .int .i64 a0_5, .int .i64 a0_6, .string a0_7, .int .i64 a0_8, .int .i64 a0_9, .int .i64 a0_10, .int .i64 a0_11, .slice A0_12 l0_12.length c0_12, .slice A0_13 l0_13.length c0_13]) (t := 40) ?_; intro gb104 w14 BK104 n0_ GW104 GE104; clear HB; have HB := n0_; clear n0_) | ((with_reducible refine gate_dst (N := 3) rfl ?_); refine be_ (N := 3) (cs := #[.int .i64 a1_0, .int .i64 a1_1, .int .i64 a1_2, .int .i64 a1_3, .string a1_4, .int .i64 a1_5, .int .i64 a1_6, .string a1_7, .int .i64 a1_8, .int .i64 a1_9, .int .i64 a1_10, .int .i64 a1_11, .slice A1_12 l1_12.length c1_12, .slice A1_13 l1_13.length c1_13]) (t := 40) ?_; intro gb105 hg w15 hbox hb; have BK105 := am_ (hbox); have GW105 := gw_ (w := w) hg; have GE105 := gw_ (w := w) hg; replace HB := bt_ hb; have NB104_105 := ne_ hg BK104; have NB105_104 := nf_ hg BK104; replace BK104 := bw_ BK104 hb; clear hb hbox hg; have hnb16 := NB104_105.out; have hnc16 := NB105_104.out; have hcz17_0 : w15.cell? ⟨gb104, 0, none⟩ = some (.int .i64 a0_0) := (blk_cell BK104.out 0).trans rfl; have hcz17_1 : w15.cell? ⟨gb104, 1, none⟩ = some (.int .i64 a0_1) := (blk_cell BK104.out 1).trans rfl; have hcz17_2 : w15.cell? ⟨gb104, 2, none⟩ = some (.int .i64 a0_2) := (blk_cell BK104.out 2).trans rfl; have hcz17_3 : w15.cell? ⟨gb104, 3, none⟩ = some (.int .i64 a0_3) := (blk_cell BK104.out 3).trans rfl; have hcz17_4 : w15.cell? ⟨gb104, 4, none⟩ = some (.string a0_4) := (blk_cell BK104.out 4).trans rfl; have hcz17_5 : w15.cell? ⟨gb104, 5, none⟩ = some (.int .i64 a0_5) := (blk_cell BK104.out 5).trans rfl; have hcz17_6 : w15.cell? ⟨gb104, 6, none⟩ = some (.int .i64 a0_6) := (blk_cell BK104.out 6).trans rfl; have hcz17_7 : w15.cell? ⟨gb104, 7, none⟩ = some (.string a0_7) := (blk_cell BK104.out 7).trans rfl; have hcz17_8 : w15.cell? ⟨gb104, 8, none⟩ = some (.int .i64 a0_8) := (blk_cell BK104.out 8).trans rfl; have hcz17_9 : w15.cell? ⟨gb104, 9, none⟩ = some (.int .i64 a0_9) := (blk_cell BK104.out 9).trans rfl; have hcz17_10 : w15.cell? ⟨gb104, 10, none⟩ = some (.int .i64 a0_10) := (blk_cell BK104.out 10).trans rfl; have hcz17_11 : w15.cell? ⟨gb104, 11, none⟩ = some (.int .i64 a0_11) := (blk_cell BK104.out 11).trans rfl; have hcz17_12 : w15.cell? ⟨gb104, 12, none⟩ = some (.slice A0_12 l0_12.length c0_12) := (blk_cell BK104.out 12).trans rfl; have hcz17_13 : w15.cell? ⟨gb104, 13, none⟩ = some (.slice A0_13 l0_13.length c0_13) := (blk_cell BK104.out 13).trans rfl; have hfz17_0 := blk_frozen BK104.out 0; have hfz17_1 := blk_frozen BK104.out 1; have hfz17_2 := blk_frozen BK104.out 2; have hfz17_3 := blk_frozen BK104.out 3; have hfz17_4 := blk_frozen BK104.out 4; have hfz17_5 := blk_frozen BK104.out 5; have hfz17_6 := blk_frozen BK104.out 6; have hfz17_7 := blk_frozen BK104.out 7; have hfz17_8 := blk_frozen BK104.out 8; have hfz17_9 := blk_frozen BK104.out 9; have hfz17_10 := blk_frozen BK104.out 10; have hfz17_11 := blk_frozen BK104.out 11; have hfz17_12 := blk_frozen BK104.out 12; have hfz17_13 := blk_frozen BK104.out 13; have hcz18_0 : w15.cell? ⟨gb105, 0, none⟩ = some (.int .i64 a1_0) := (blk_cell BK105.out 0).trans rfl; have hcz18_1 : w15.cell? ⟨gb105, 1, none⟩ = some (.int .i64 a1_1) := (blk_cell BK105.out 1).trans rfl; have hcz18_2 : w15.cell? ⟨gb105, 2, none⟩ = some (.int .i64 a1_2) := (blk_cell BK105.out 2).trans rfl; have hcz18_3 : w15.cell? ⟨gb105, 3, none⟩ = some (.int .i64 a1_3) := (blk_cell BK105.out 3).trans rfl; have hcz18_4 : w15.cell? ⟨gb105, 4, none⟩ = some (.string a1_4) := (blk_cell BK105.out 4).trans rfl; have hcz18_5 : w15.cell? ⟨gb105, 5, none⟩ = some (.int .i64 a1_5) := (blk_cell BK105.out 5).trans rfl; have hcz18_6 : w15.cell? ⟨gb105, 6, none⟩ = some (.int .i64 a1_6) := (blk_cell BK105.out 6).trans rfl; have hcz18_7 : w15.cell? ⟨gb105, 7, none⟩ = some (.string a1_7) := (blk_cell BK105.out 7).trans rfl; have hcz18_8 : w15.cell? ⟨gb105, 8, none⟩ = some (.int .i64 a1_8) := (blk_cell BK105.out 8).trans rfl; have hcz18_9 : w15.cell? ⟨gb105, 9, none⟩ = some (.int .i64 a1_9) := (blk_cell BK105.out 9).trans rfl; have hcz18_10 : w15.cell? ⟨gb105, 10, none⟩ = some (.int .i64 a1_10) := (blk_cell BK105.out 10).trans rfl; have hcz18_11 : w15.cell? ⟨gb105, 11, none⟩ = some (.int .i64 a1_11) := (blk_cell BK105.out 11).trans rfl; have hcz18_12 : w15.cell? ⟨gb105, 12, none⟩ = some (.slice A1_12 l1_12.length c1_12) := (blk_cell BK105.out 12).trans rfl; have hcz18_13 : w15.cell? ⟨gb105, 13, none⟩ = some (.slice A1_13 l1_13.length c1_13) := (blk_cell BK105.out 13).trans rfl; have hfz18_0 := blk_frozen BK105.out 0; have hfz18_1 := blk_frozen BK105.out 1; have hfz18_2 := blk_frozen BK105.out 2; have hfz18_3 := blk_frozen BK105.out 3; have hfz18_4 := blk_frozen BK105.out 4; have hfz18_5 := blk_frozen BK105.out 5; have hfz18_6 := blk_frozen BK105.out 6; have hfz18_7 := blk_frozen BK105.out 7; have hfz18_8 := blk_frozen BK105.out 8; have hfz18_9 := blk_frozen BK105.out 9; have hfz18_10 := blk_frozen BK105.out 10; have hfz18_11 := blk_frozen BK105.out 11; have hfz18_12 := blk_frozen BK105.out 12; have hfz18_13 := blk_frozen BK105.out 13) | (go_at_call 42; (with_reducible refine (computusref23_Texts.calls k _ _ l0_12 _ _ l1_12 true _ ?side1 ?side2 ?side3 ?side4 A11.out).mono ?_); (case side1 => exact ck_ (Kd.C_below HR0_12.out HB.out)); (case side2 => exact HC0_12.out); (case side3 => exact ck_ (Kd.C_below HR1_12.out HB.out)); (case side4 => exact HC1_12.out); rintro e w' ⟨rfl, ⟨nd, rfl⟩⟩) | (go_at_call 42; (with_reducible refine (computusref23_Texts.calls k _ _ l0_13 _ _ l1_13 t107 _ ?side1 ?side2 ?side3 ?side4 A13.out).mono ?_); (case side1 => exact ck_ (Kd.C_below HR0_13.out bh_)); (case side2 => exact HC0_13.out); (case side3 => exact ck_ (Kd.C_below HR1_13.out bh_)); (case side4 => exact HC1_13.out); rintro e w' ⟨rfl, ⟨nd, rfl⟩⟩))
 go_ret
 exact rt_
end
def IsS77 (w0 W : World) (g : Nat) (f0 : ByteArray) (f1 : Int) (f2 : Bool) : Prop := W.heap[g]? = some (.cells #[.string f0, .int .i64 f1, .bool f2] 77 (0, 0)) ∧ w0.heap.size ≤ g
theorem IsS77.grown {w0 W : World} {g : Nat} {f0 : ByteArray} {f1 : Int} {f2 : Bool} {W1 : World} {row : Option Nat} (h : IsS77 w0 W g f0 f1 f2) (hw : W.grownBy W1 row) (hne : some g ≠ row) : IsS77 w0 W1 g f0 f1 f2 := by
 obtain ⟨hb, hg⟩ := h
 exact ⟨blk_grown hb hw hne, hg⟩
theorem IsS77.kept {w0 W : World} {g : Nat} {f0 : ByteArray} {f1 : Int} {f2 : Bool} {W1 : World} {S : Nat → Prop} (h : IsS77 w0 W g f0 f1 f2) (hk : Kept W W1 S) (hne : ¬ S g) : IsS77 w0 W1 g f0 f1 f2 := by
 obtain ⟨hb, hg⟩ := h
 exact ⟨blk_kept hb hk hne, hg⟩
theorem IsS77.below {w0 W : World} {g : Nat} {f0 : ByteArray} {f1 : Int} {f2 : Bool} {W1 : World} (h : IsS77 w0 W g f0 f1 f2) (hw : Below W.heap.size W W1) : IsS77 w0 W1 g f0 f1 f2 := h.grown (grown_of_below hw none) (by simp)
theorem IsS77.alloc {w0 W : World} {g : Nat} {f0 : ByteArray} {f1 : Int} {f2 : Bool} (h : IsS77 w0 W g f0 f1 f2) (o : Obj) : IsS77 w0 (W.alloc o) g f0 f1 f2 := h.below (below_alloc (Below.refl _ _) o)
theorem IsS77.drewN {w0 W : World} {g : Nat} {f0 : ByteArray} {f1 : Int} {f2 : Bool} (h : IsS77 w0 W g f0 f1 f2) (m : Nat) : IsS77 w0 (W.drewN m) g f0 f1 f2 := h
theorem IsS77.drew {w0 W : World} {g : Nat} {f0 : ByteArray} {f1 : Int} {f2 : Bool} (h : IsS77 w0 W g f0 f1 f2) : IsS77 w0 W.drew g f0 f1 f2 := h
theorem IsS77.at_ {w0 W : World} {g : Nat} {f0 : ByteArray} {f1 : Int} {f2 : Bool} {w' : World} {m : Nat} (hq : W.drewN m = w') (h : IsS77 w0 W g f0 f1 f2) : IsS77 w0 w' g f0 f1 f2 := by subst hq; exact IsS77.drewN h m
theorem IsS77.apart {w0 W : World} {g : Nat} {f0 : ByteArray} {f1 : Int} {f2 : Bool} {α : Type} {d : Kd α} {e : Nat} {base : Nat} {ok : Nat → Prop} {v : Value} {xs : List α} (h : IsS77 w0 W g f0 f1 f2) (ho : d.R e W base ok v xs) (ht : ∀ q, q ∈ e :: d.E → q ≠ 77) : d.R e W base (fun k => ok k ∧ k ≠ g) v xs := by
 obtain ⟨hb, hg⟩ := h
 exact Kd.R_types ho hb ht
theorem IsS77.own_ne {w0 W : World} {g : Nat} {f0 : ByteArray} {f1 : Int} {f2 : Bool} {α : Type} {d : Kd α} {e : Nat} {base : Nat} {ok : Nat → Prop} {v : Value} {xs : List α} (h : IsS77 w0 W g f0 f1 f2) (ho : d.R e W base ok v xs) (ht : e ≠ 77) : some g ≠ v.ownBlock := by
 obtain ⟨hb, hg⟩ := h
 exact Kd.R_ne ho hb ht
theorem IsS77.lt {w0 W : World} {g : Nat} {f0 : ByteArray} {f1 : Int} {f2 : Bool} (h : IsS77 w0 W g f0 f1 f2) : g < W.heap.size := by
 obtain ⟨hb, hg⟩ := h
 exact blk_lt hb
theorem IsS77.ge {w0 W : World} {g : Nat} {f0 : ByteArray} {f1 : Int} {f2 : Bool} (h : IsS77 w0 W g f0 f1 f2) : w0.heap.size ≤ g := by
 obtain ⟨hb, hg⟩ := h
 exact hg
theorem IsS77.ne_blk {w0 W : World} {g : Nat} {f0 : ByteArray} {f1 : Int} {f2 : Bool} {a : Nat} {cs : Array Value} {t : TypeId} {fr : Nat × Nat} (h : IsS77 w0 W g f0 f1 f2) (hb2 : W.heap[a]? = some (.cells cs t fr)) (ht : t ≠ 77) : g ≠ a := by
 obtain ⟨hb, hg⟩ := h
 rintro rfl
 rw [hb] at hb2
 injection hb2 with hb2
 injection hb2 with _ ht2
 exact ht ht2.symm
theorem IsS77.far {w0 W : World} {g : Nat} {f0 : ByteArray} {f1 : Int} {f2 : Bool} {p : Addr} (h : IsS77 w0 W g f0 f1 f2) (hne : g ≠ p.block) (u : Value) : IsS77 w0 (W.setCell p u) g f0 f1 f2 := by
 obtain ⟨hb, hg⟩ := h
 exact ⟨blk_far hb hne u, hg⟩
theorem cellS77_0 {W : World} {g : Nat} {f0 : ByteArray} {f1 : Int} {f2 : Bool} (h : W.heap[g]? = some (.cells #[.string f0, .int .i64 f1, .bool f2] 77 (0, 0))) : W.cell? ⟨g, 0, none⟩ = some (.string f0) := (blk_cell h 0).trans rfl
theorem IsS77.set_0 {w0 W : World} {g : Nat} {f0 : ByteArray} {f1 : Int} {f2 : Bool} (h : IsS77 w0 W g f0 f1 f2) (x : ByteArray) : IsS77 w0 (W.setCell ⟨g, 0, none⟩ (.string x)) g x f1 f2 := by
 obtain ⟨hb, hg⟩ := h
 exact ⟨by simpa using blk_set hb 0 (.string x), hg⟩
theorem cellS77_1 {W : World} {g : Nat} {f0 : ByteArray} {f1 : Int} {f2 : Bool} (h : W.heap[g]? = some (.cells #[.string f0, .int .i64 f1, .bool f2] 77 (0, 0))) : W.cell? ⟨g, 1, none⟩ = some (.int .i64 f1) := (blk_cell h 1).trans rfl
theorem IsS77.set_1 {w0 W : World} {g : Nat} {f0 : ByteArray} {f1 : Int} {f2 : Bool} (h : IsS77 w0 W g f0 f1 f2) (x : Int) : IsS77 w0 (W.setCell ⟨g, 1, none⟩ (.int .i64 x)) g f0 x f2 := by
 obtain ⟨hb, hg⟩ := h
 exact ⟨by simpa using blk_set hb 1 (.int .i64 x), hg⟩
theorem cellS77_2 {W : World} {g : Nat} {f0 : ByteArray} {f1 : Int} {f2 : Bool} (h : W.heap[g]? = some (.cells #[.string f0, .int .i64 f1, .bool f2] 77 (0, 0))) : W.cell? ⟨g, 2, none⟩ = some (.bool f2) := (blk_cell h 2).trans rfl
theorem IsS77.set_2 {w0 W : World} {g : Nat} {f0 : ByteArray} {f1 : Int} {f2 : Bool} (h : IsS77 w0 W g f0 f1 f2) (x : Bool) : IsS77 w0 (W.setCell ⟨g, 2, none⟩ (.bool x)) g f0 f1 x := by
 obtain ⟨hb, hg⟩ := h
 exact ⟨by simpa using blk_set hb 2 (.bool x), hg⟩
theorem IsS77.new (w0 W : World) (f0 : ByteArray) (f1 : Int) (f2 : Bool) (hB : Below w0.heap.size w0 W) : IsS77 w0 (W.alloc (.cells #[.string f0, .int .i64 f1, .bool f2] 77)) W.heap.size f0 f1 f2 := ⟨by simpa using heap_alloc_new W _, hB.size⟩
def linescan_Scanner_next.f (s0_0 : ByteArray) (s0_1 : Int) (s0_2 : Bool) : Option (Int × Bool × ByteArray × Int × Bool) := if s0_1 ≥ (s0_0.size : Int) then (some (0, false, s0_0, s0_1, s0_2)) else (if 0 ≤ s0_1 then (if s0_1 < (s0_0.size : Int) then (some (bt s0_0 s0_1, true, s0_0, s0_1, s0_2)) else (none)) else (none))
theorem linescan_Scanner_next.calls (g : Nat) (s0_0 : ByteArray) (s0_1 : Int) (s0_2 : Bool) (r1 : Int) (r2 : Bool) (r3 : ByteArray) (r4 : Int) (r5 : Bool) (w0 w : World) (hI : IsS77 w0 w g s0_0 s0_1 s0_2) (hB : Below w0.heap.size w0 w) (h : linescan_Scanner_next.f s0_0 s0_1 s0_2 = some (r1, r2, r3, r4, r5)) :
  Calls Tryd.prog 87 #[.pointer (some ⟨g, 0, none⟩)] w fun e w' => e = .returned (.tuple #[.int .u8 r1, .bool r2]) ∧ IsS77 w0 w' g r3 r4 r5 ∧ Below w0.heap.size w0 w' ∧ KeepBut w w' g none := by
 have HI0 := am_ hI
 have HK := am_ (KeepBut.refl w g none)
 have HL := am_ hB.size
 clear hI
 have HW0 := am_ hB.size
 have HB := am_ hB
 clear hB
 have H := h
 clear h
 unfold linescan_Scanner_next.f at H
 by_cases c2 : s0_1 ≥ (s0_0.size : Int)
 ·rw [if_pos c2] at H
  have c2b0 : decide ((s0_0.size : Int) ≤ s0_1) = true := decide_eq_true c2
  clear c2
  simp only [Option.some.injEq, Prod.mk.injEq] at H
  obtain ⟨rfl, rfl, rfl, rfl, rfl⟩ := H
  obtain ⟨HGz3, hgz3⟩ := HI0.out
  have hcz3_0 := cellS77_0 HGz3
  have hcz3_1 := cellS77_1 HGz3
  have hcz3_2 := cellS77_2 HGz3
  have hfz3_0 := blk_frozen HGz3 0
  have hfz3_1 := blk_frozen HGz3 1
  have hfz3_2 := blk_frozen HGz3 2
  clear HGz3 hgz3
  go_enter Tryd.func87, Tryd.ntmps87
  go_wp2
  repeat (go_quiet (fail); try go_wp2)
  go_ret2
  exact ⟨by first | rfl | (simp [errW_none, errW_some] <;> rfl) | (simp [*, errW_none, errW_some] <;> rfl), by repeat (first | (with_reducible first | exact HI0.out | apply IsS77.alloc | apply IsS77.drewN | apply IsS77.drew | apply IsS77.set_0 | apply IsS77.set_1 | apply IsS77.set_2) | exact HI0.out), by repeat (first | (with_reducible first | exact HB.out | apply below_alloc | apply pw_below_drewN | apply below_drew1 | refine below_set ?_ (IsS77.ge HI0.out)) | exact HB.out), by repeat (first | (with_reducible first | exact HK.out | apply KeepBut.set_ | apply keep_drewN | apply keep_drew | apply keep_alloc) | exact HK.out)⟩
 rw [if_neg c2] at H
 have c2b0 : decide ((s0_0.size : Int) ≤ s0_1) = false := decide_eq_false c2
 clear c2
 by_cases c4 : 0 ≤ s0_1
 rotate_left
 ·rw [if_neg c4] at H
  exact absurd H (by simp)
 rw [if_pos c4] at H
 have c4b0 : decide (0 ≤ s0_1) = true := decide_eq_true c4
 clear c4
 by_cases c5 : s0_1 < (s0_0.size : Int)
 rotate_left
 ·rw [if_neg c5] at H
  exact absurd H (by simp)
 rw [if_pos c5] at H
 have c5b0 : decide (s0_1 < (s0_0.size : Int)) = true := decide_eq_true c5
 clear c5
 simp only [Option.some.injEq, Prod.mk.injEq] at H
 obtain ⟨rfl, rfl, rfl, rfl, rfl⟩ := H
 obtain ⟨HGz7, hgz7⟩ := HI0.out
 have hcz7_0 := cellS77_0 HGz7
 have hcz7_1 := cellS77_1 HGz7
 have hcz7_2 := cellS77_2 HGz7
 have hfz7_0 := blk_frozen HGz7 0
 have hfz7_1 := blk_frozen HGz7 1
 have hfz7_2 := blk_frozen HGz7 2
 clear HGz7 hgz7
 have p6 : 0 ≤ (s0_1 : Int) := of_decide_eq_true as_
 have q6 : s0_1 < (s0_0.size : Int) := of_decide_eq_true as_
 have hx6 := bt_at s0_0 s0_1
 replace p6 := eq_true p6
 replace q6 := eq_true q6
 go_enter Tryd.func87, Tryd.ntmps87
 go_wp2
 repeat (go_quiet (fail); try go_wp2)
 go_ret2
 exact ⟨by first | rfl | (simp [errW_none, errW_some] <;> rfl) | (simp [*, errW_none, errW_some] <;> rfl), by repeat (first | (with_reducible first | exact HI0.out | apply IsS77.alloc | apply IsS77.drewN | apply IsS77.drew | apply IsS77.set_0 | apply IsS77.set_1 | apply IsS77.set_2) | exact HI0.out), by repeat (first | (with_reducible first | exact HB.out | apply below_alloc | apply pw_below_drewN | apply below_drew1 | refine below_set ?_ (IsS77.ge HI0.out)) | exact HB.out), by repeat (first | (with_reducible first | exact HK.out | apply KeepBut.set_ | apply keep_drewN | apply keep_drew | apply keep_alloc) | exact HK.out)⟩
mutual
def computusref23_Same.j0 : Nat → Bool → Int → List (S40) → Int → List (S40) → Option (Bool)
 | 0, _, _, _, _, _ => none
 | k + 1, x19, x340000, x340001, x341000, x341001 => if x19 = true then (some false) else (computusref23_Same.l0 k 0 x340000 x340001 x341000 x341001)
def computusref23_Same.l0 : Nat → Int → Int → List (S40) → Int → List (S40) → Option (Bool)
 | 0, _, _, _, _, _ => none
 | k + 1, x5, x340000, x340001, x341000, x341001 => if x5 < (x340001.length : Int) then (if 0 ≤ x5 then (if x5 < (x341001.length : Int) then ((computusref23_SameEntry.f k ((rd_T40 x340001 x5).f0.f0) ((rd_T40 x340001 x5).f0.f1) ((rd_T40 x340001 x5).f0.f2) ((rd_T40 x340001 x5).f1) ((rd_T40 x340001 x5).f2) ((rd_T40 x340001 x5).f3) ((rd_T40 x340001 x5).f4) ((rd_T40 x340001 x5).f5) ((rd_T40 x340001 x5).f6) ((rd_T40 x340001 x5).f7.f0) ((rd_T40 x340001 x5).f7.f1) ((rd_T40 x340001 x5).f7.f2) ((rd_T40 x340001 x5).f8) ((rd_T40 x340001 x5).f9) ((rd_T40 x341001 x5).f0.f0) ((rd_T40 x341001 x5).f0.f1) ((rd_T40 x341001 x5).f0.f2) ((rd_T40 x341001 x5).f1) ((rd_T40 x341001 x5).f2) ((rd_T40 x341001 x5).f3) ((rd_T40 x341001 x5).f4) ((rd_T40 x341001 x5).f5) ((rd_T40 x341001 x5).f6) ((rd_T40 x341001 x5).f7.f0) ((rd_T40 x341001 x5).f7.f1) ((rd_T40 x341001 x5).f7.f2) ((rd_T40 x341001 x5).f8) ((rd_T40 x341001 x5).f9)).bind fun t343 => (if t343 = true then (computusref23_Same.l0 k (wrap64 (x5 + 1)) x340000 x340001 x341000 x341001) else (some false))) else (none)) else (none)) else (some true)
end
def computusref23_Same.f (k : Nat) (a0_0 : Int) (l0_1 : List (S40)) (a1_0 : Int) (l1_1 : List (S40)) : Option (Bool) := if a0_0 = a1_0 then (computusref23_Same.j0 k ((l0_1.length : Int) != (l1_1.length : Int)) a0_0 l0_1 a1_0 l1_1) else (computusref23_Same.j0 k true a0_0 l0_1 a1_0 l1_1)
def computusref23_Same.T6 : Bool × List (List Nat × List Nat) := (true, [([], []), ([0], [0]), ([], []), ([1, 2], [1, 2]), ([3], [3]), ([], []), ([5], [5]), ([], []), ([6, 7], [6, 7]), ([8], [8]), ([4, 9], [4, 9]), ([10], [10])])
def computusref23_Same.B6 : List Nat := [0, 1, 0, 7, 15, 0, 32, 0, 224, 480, 1023, 2047]
theorem computusref23_Same.tab6 : rtab .any (opsOf Tryd.f11 6) = computusref23_Same.T6 := by kernel_rfl
theorem computusref23_Same.bits6 : waitsOk computusref23_Same.T6.2 computusref23_Same.B6 = true := by kernel_rfl
theorem computusref23_Same.calls (k : Nat) (a0_0 : Int) (A0_1 : Option Addr) (c0_1 : Nat) (l0_1 : List (S40)) (a1_0 : Int) (A1_1 : Option Addr) (c1_1 : Nat) (l1_1 : List (S40)) (r : Bool) (w : World) (hr0_1 : Kd.C k40 w A0_1 l0_1.length l0_1) (hc0_1 : l0_1.length ≤ c0_1) (hr1_1 : Kd.C k40 w A1_1 l1_1.length l1_1) (hc1_1 : l1_1.length ≤ c1_1) (h : computusref23_Same.f k a0_0 l0_1 a1_0 l1_1 = some r) :
  Calls Tryd.prog 11 #[.agg #[.int .i64 a0_0, .slice A0_1 l0_1.length c0_1], .agg #[.int .i64 a1_0, .slice A1_1 l1_1.length c1_1]] w fun e w' => e = .returned (.bool r) ∧ Below w.heap.size w w' := by
 have hu25 := Tryd.underlying25
 have hu40 := Tryd.underlying40
 have HR0_1 := am_ hr0_1
 have HC0_1 := am_ hc0_1
 clear hr0_1 hc0_1
 have HR1_1 := am_ hr1_1
 have HC1_1 := am_ hc1_1
 clear hr1_1 hc1_1
 have HB := am_ (Below.refl w.heap.size w)
 have H := h
 clear h
 unfold computusref23_Same.f at H
 have HC3 := am_ H
 clear H
 go_enter Tryd.func11, Tryd.ntmps11
 go_upto_region 1 with (first | ((with_reducible refine gate_dst (N := 2) rfl ?_); (try (refine gate_guard (by rfl) ?_; dsimp only)); refine bx_ (w := w) (N := 2) (cs := #[.int .i64 a0_0, .slice A0_1 l0_1.length c0_1]) (t := 25) ?_; intro gb339 w4 BK339 n0_ GW339 GE339; clear HB; have HB := n0_; clear n0_) | ((with_reducible refine gate_dst (N := 3) rfl ?_); (try (refine gate_guard (by rfl) ?_; dsimp only)); refine be_ (N := 3) (cs := #[.int .i64 a1_0, .slice A1_1 l1_1.length c1_1]) (t := 25) ?_; intro gb340 hg w5 hbox hb; have BK340 := am_ (hbox); have GW340 := gw_ (w := w) hg; have GE340 := gw_ (w := w) hg; replace HB := bt_ hb; have NB339_340 := ne_ hg BK339; have NB340_339 := nf_ hg BK339; replace BK339 := bw_ BK339 hb; clear hb hbox hg))
 (try simp only [Act.put, sA_, sZ_, sS_])
 go_cut [19] (fun v19 wc => ∃ (kq : Nat) (x19_2 : Bool), v19 = .bool x19_2 ∧ Aside0 (computusref23_Same.j0 kq x19_2 a0_0 l0_1 a1_0 l1_1 = some r) ∧ Aside0 (kq ≤ k) ∧ Aside0 (wc.heap[gb339]? = some (.cells #[.int .i64 a0_0, (.slice A0_1 l0_1.length c0_1)] 25 (0, 0))) ∧ Aside0 (wc.heap[gb340]? = some (.cells #[.int .i64 a1_0, (.slice A1_1 l1_1.length c1_1)] 25 (0, 0))) ∧ Aside0 (Below w.heap.size w wc))
 case first =>
  have H := HC3.out
  clear HC3
  by_cases c6 : a0_0 = a1_0
  rotate_left
  ·rw [if_neg c6] at H
   have c6b0 : (a0_0 == a1_0) = false := beq_eq_false_iff_ne.mpr c6
   have c6b1 : (a0_0 != a1_0) = true := bne_iff_ne.mpr c6
   (first | rw [c6b0] | (simp only [i64_w, i32_w]; rw [c6b0]) | skip)
   have H' := am_ H
   clear H
   have hnb10 := NB339_340.out
   have hnc10 := NB340_339.out
   obtain ⟨hcz11_0, hcz11_1⟩ := cz2_ BK339.out
   obtain ⟨hfz11_0, hfz11_1⟩ := fz2_ BK339.out
   obtain ⟨hcz12_0, hcz12_1⟩ := cz2_ BK340.out
   obtain ⟨hfz12_0, hfz12_1⟩ := fz2_ BK340.out
   go_wp2
   go_meet
   case rel => exact ⟨_, (true), rs_, H', ⟨by first | omega | exact Nat.le_refl _⟩, ⟨bk_ BK339.out⟩, ⟨bk_ BK340.out⟩, ⟨bh_⟩⟩
  rw [if_pos c6] at H
  have c6b0 : (a0_0 == a1_0) = true := beq_iff_eq.mpr c6
  have c6b1 : (a0_0 != a1_0) = false := bne_eq_false_iff_eq.mpr c6
  clear c6
  (first | rw [c6b0] | (simp only [i64_w, i32_w]; rw [c6b0]) | skip)
  have H' := am_ H
  clear H
  have hnb7 := NB339_340.out
  have hnc7 := NB340_339.out
  obtain ⟨hcz8_0, hcz8_1⟩ := cz2_ BK339.out
  obtain ⟨hfz8_0, hfz8_1⟩ := fz2_ BK339.out
  obtain ⟨hcz9_0, hcz9_1⟩ := cz2_ BK340.out
  obtain ⟨hfz9_0, hfz9_1⟩ := fz2_ BK340.out
  go_wp2
  go_meet
  case rel => exact ⟨_, (((l0_1.length : Int) != (l1_1.length : Int))), rs_, H', ⟨by first | omega | exact Nat.le_refl _⟩, ⟨bk_ BK339.out⟩, ⟨bk_ BK340.out⟩, ⟨bh_⟩⟩
 case rest =>
  clear HC3
  obtain ⟨kq, x19_2, rfl, HA, HJ2, BK339, BK340, HB⟩ := hcut
  cases kq with
  | zero => exact absurd HA.out (by simp [computusref23_Same.j0])
  | succ kj2 =>
   have H := HA.out
   clear HA
   simp only [computusref23_Same.j0] at H
   by_cases c13 : x19_2 = true
   ·subst c13
    replace H := it_ H
    obtain rfl := Option.some.inj H
    go_wp2
    go_ret
    exact rt_
   replace c13 := Bool.eq_false_iff.mpr c13
   subst c13
   replace H := if_ H
   have H' := am_ H
   clear H
   go_wp2
   go_loopg [5] kj2 (fun kq v5 w' => ∃ (x5_2 : Int), v5 = .int .i64 x5_2 ∧ Aside0 (computusref23_Same.l0 kq x5_2 a0_0 l0_1 a1_0 l1_1 = some r) ∧ Aside0 (kq ≤ kj2) ∧ Aside0 (w'.heap[gb339]? = some (.cells #[.int .i64 a0_0, (.slice A0_1 l0_1.length c0_1)] 25 (0, 0))) ∧ Aside0 (w'.heap[gb340]? = some (.cells #[.int .i64 a1_0, (.slice A1_1 l1_1.length c1_1)] 25 (0, 0))) ∧ Aside0 (Below w.heap.size w w'))
   case atStart => exact ⟨(0), rs_, H', ⟨Nat.le_refl _⟩, ⟨bk_ BK339.out⟩, ⟨bk_ BK340.out⟩, ⟨bh_⟩⟩
   case round =>
    clear H'
    obtain ⟨x5_2, rfl, HA, HK2, BK339, BK340, HB⟩ := hrel
    cases gk with
    | zero => exact absurd HA.out (by simp [computusref23_Same.l0])
    | succ k2 =>
     have H := HA.out
     clear HA
     simp only [computusref23_Same.l0] at H
     by_cases c14 : x5_2 < (l0_1.length : Int)
     rotate_left
     ·rw [if_neg c14] at H
      have c14b0 : decide (x5_2 < (l0_1.length : Int)) = false := decide_eq_false c14
      clear c14
      obtain rfl := Option.some.inj H
      have hnb27 := NB339_340.out
      have hnc27 := NB340_339.out
      obtain ⟨hcz28_0, hcz28_1⟩ := cz2_ BK339.out
      obtain ⟨hfz28_0, hfz28_1⟩ := fz2_ BK339.out
      go_wp2
      go_ret
      exact rt_
     rw [if_pos c14] at H
     have c14b0 : decide (x5_2 < (l0_1.length : Int)) = true := decide_eq_true c14
     clear c14
     by_cases c15 : 0 ≤ x5_2
     rotate_left
     ·rw [if_neg c15] at H
      exact absurd H (by simp)
     rw [if_pos c15] at H
     have c15b0 : decide (0 ≤ x5_2) = true := decide_eq_true c15
     clear c15
     by_cases c16 : x5_2 < (l1_1.length : Int)
     rotate_left
     ·rw [if_neg c16] at H
      exact absurd H (by simp)
     rw [if_pos c16] at H
     have c16b0 : decide (x5_2 < (l1_1.length : Int)) = true := decide_eq_true c16
     clear c16
     obtain ⟨t343, A17, H⟩ := bs_ H
     by_cases c18 : t343 = true
     rotate_left
     ·replace c18 := Bool.eq_false_iff.mpr c18
      subst c18
      replace H := if_ H
      obtain rfl := Option.some.inj H
      have hnb23 := NB339_340.out
      have hnc23 := NB340_339.out
      obtain ⟨hcz24_0, hcz24_1⟩ := cz2_ BK339.out
      obtain ⟨hfz24_0, hfz24_1⟩ := fz2_ BK339.out
      try go_wp2
      replace BK339 := am_ (blk_drew BK339.out)
      replace BK340 := am_ (blk_drew BK340.out)
      replace HB := am_ (below_drew1 HB.out)
      have p341 : 0 ≤ (x5_2 : Int) := of_decide_eq_true as_
      have q341 : x5_2 < (l0_1.length : Int) := of_decide_eq_true as_
      obtain ⟨ad341, A341_12, c341_12, A341_13, c341_13, e341, hx341_0, hx341_1, hx341_2, hx341_3, hx341_4, hx341_5, hx341_6, hx341_7, hx341_8, hx341_9, hx341_10, hx341_11, hx341_12, hx341_13, hl341_12, hi341_12, hl341_13, hi341_13⟩ := at_T40 HR0_1.out x5_2 p341 q341
      have hw341_13 := hx341_13
      have hw341_12 := hx341_12
      have hw341_11 := hx341_11
      have hw341_10 := hx341_10
      have hw341_9 := hx341_9
      have hw341_8 := hx341_8
      have hw341_7 := hx341_7
      have hw341_6 := hx341_6
      have hw341_5 := hx341_5
      have hw341_4 := hx341_4
      have hw341_3 := hx341_3
      have hw341_2 := hx341_2
      have hw341_1 := hx341_1
      have hw341_0 := hx341_0
      cases e341
      replace hx341_0 := cm_ HB.out hx341_0
      replace hx341_1 := cm_ HB.out hx341_1
      replace hx341_2 := cm_ HB.out hx341_2
      replace hx341_3 := cm_ HB.out hx341_3
      replace hx341_4 := cm_ HB.out hx341_4
      replace hx341_5 := cm_ HB.out hx341_5
      replace hx341_6 := cm_ HB.out hx341_6
      replace hx341_7 := cm_ HB.out hx341_7
      replace hx341_8 := cm_ HB.out hx341_8
      replace hx341_9 := cm_ HB.out hx341_9
      replace hx341_10 := cm_ HB.out hx341_10
      replace hx341_11 := cm_ HB.out hx341_11
      replace hx341_12 := cm_ HB.out hx341_12
      replace hx341_13 := cm_ HB.out hx341_13
      have HR341_12 := am_ hi341_12
      have HC341_12 := am_ hl341_12
      clear hi341_12 hl341_12
      have HR341_13 := am_ hi341_13
      have HC341_13 := am_ hl341_13
      clear hi341_13 hl341_13
      replace p341 := eq_true p341
      replace q341 := eq_true q341
      have p342 : 0 ≤ (x5_2 : Int) := of_decide_eq_true as_
      have q342 : x5_2 < (l1_1.length : Int) := of_decide_eq_true as_
      obtain ⟨ad342, A342_12, c342_12, A342_13, c342_13, e342, hx342_0, hx342_1, hx342_2, hx342_3, hx342_4, hx342_5, hx342_6, hx342_7, hx342_8, hx342_9, hx342_10, hx342_11, hx342_12, hx342_13, hl342_12, hi342_12, hl342_13, hi342_13⟩ := at_T40 HR1_1.out x5_2 p342 q342
      have hw342_13 := hx342_13
      have hw342_12 := hx342_12
      have hw342_11 := hx342_11
      have hw342_10 := hx342_10
      have hw342_9 := hx342_9
      have hw342_8 := hx342_8
      have hw342_7 := hx342_7
      have hw342_6 := hx342_6
      have hw342_5 := hx342_5
      have hw342_4 := hx342_4
      have hw342_3 := hx342_3
      have hw342_2 := hx342_2
      have hw342_1 := hx342_1
      have hw342_0 := hx342_0
      cases e342
      replace hx342_0 := cm_ HB.out hx342_0
      replace hx342_1 := cm_ HB.out hx342_1
      replace hx342_2 := cm_ HB.out hx342_2
      replace hx342_3 := cm_ HB.out hx342_3
      replace hx342_4 := cm_ HB.out hx342_4
      replace hx342_5 := cm_ HB.out hx342_5
      replace hx342_6 := cm_ HB.out hx342_6
      replace hx342_7 := cm_ HB.out hx342_7
      replace hx342_8 := cm_ HB.out hx342_8
      replace hx342_9 := cm_ HB.out hx342_9
      replace hx342_10 := cm_ HB.out hx342_10
      replace hx342_11 := cm_ HB.out hx342_11
      replace hx342_12 := cm_ HB.out hx342_12
      replace hx342_13 := cm_ HB.out hx342_13
      have HR342_12 := am_ hi342_12
      have HC342_12 := am_ hl342_12
      clear hi342_12 hl342_12
      have HR342_13 := am_ hi342_13
      have HC342_13 := am_ hl342_13
      clear hi342_13 hl342_13
      replace p342 := eq_true p342
      replace q342 := eq_true q342
      refine start_ (n := 12) (S := fun w' => w'.cell? ⟨gb339, 0, none⟩ = some (.int .i64 a0_0) ∧ w'.cell? ⟨gb339, 1, none⟩ = some (.slice (some ad341) l0_1.length c0_1) ∧ w'.cell? ⟨gb340, 0, none⟩ = some (.int .i64 a1_0) ∧ w'.cell? ⟨gb340, 1, none⟩ = some (.slice (some ad342) l1_1.length c1_1) ∧ w'.cell? (ad341.add ((x5_2).toNat * 14)) = some (.int .i64 ((rd_T40 l0_1 x5_2).f0.f0)) ∧ w'.cell? ⟨(ad341.add ((x5_2).toNat * 14)).block, (ad341.add ((x5_2).toNat * 14)).off + 1, none⟩ = some (.int .i64 ((rd_T40 l0_1 x5_2).f0.f1)) ∧ w'.cell? ⟨(ad341.add ((x5_2).toNat * 14)).block, (ad341.add ((x5_2).toNat * 14)).off + 2, none⟩ = some (.int .i64 ((rd_T40 l0_1 x5_2).f0.f2)) ∧ w'.cell? ⟨(ad341.add ((x5_2).toNat * 14)).block, (ad341.add ((x5_2).toNat * 14)).off + 3, none⟩ = some (.int .i64 ((rd_T40 l0_1 x5_2).f1)) ∧ w'.cell? ⟨(ad341.add ((x5_2).toNat * 14)).block, (ad341.add ((x5_2).toNat * 14)).off + 4, none⟩ = some (.string ((rd_T40 l0_1 x5_2).f2)) ∧ w'.cell? ⟨(ad341.add ((x5_2).toNat * 14)).block, (ad341.add ((x5_2).toNat * 14)).off + 5, none⟩ = some (.int .i64 ((rd_T40 l0_1 x5_2).f3)) ∧ w'.cell? ⟨(ad341.add ((x5_2).toNat * 14)).block, (ad341.add ((x5_2).toNat * 14)).off + 6, none⟩ = some (.int .i64 ((rd_T40 l0_1 x5_2).f4)) ∧ w'.cell? ⟨(ad341.add ((x5_2).toNat * 14)).block, (ad341.add ((x5_2).toNat * 14)).off + 7, none⟩ = some (.string ((rd_T40 l0_1 x5_2).f5)) ∧ w'.cell? ⟨(ad341.add ((x5_2).toNat * 14)).block, (ad341.add ((x5_2).toNat * 14)).off + 8, none⟩ = some (.int .i64 ((rd_T40 l0_1 x5_2).f6)) ∧ w'.cell? ⟨(ad341.add ((x5_2).toNat * 14)).block, (ad341.add ((x5_2).toNat * 14)).off + 9, none⟩ = some (.int .i64 ((rd_T40 l0_1 x5_2).f7.f0)) ∧ w'.cell? ⟨(ad341.add ((x5_2).toNat * 14)).block, (ad341.add ((x5_2).toNat * 14)).off + 10, none⟩ = some (.int .i64 ((rd_T40 l0_1 x5_2).f7.f1)) ∧ w'.cell? ⟨(ad341.add ((x5_2).toNat * 14)).block, (ad341.add ((x5_2).toNat * 14)).off + 11, none⟩ = some (.int .i64 ((rd_T40 l0_1 x5_2).f7.f2)) ∧ w'.cell? ⟨(ad341.add ((x5_2).toNat * 14)).block, (ad341.add ((x5_2).toNat * 14)).off + 12, none⟩ = some (.slice A341_12 ((rd_T40 l0_1 x5_2).f8).length c341_12) ∧ w'.cell? ⟨(ad341.add ((x5_2).toNat * 14)).block, (ad341.add ((x5_2).toNat * 14)).off + 13, none⟩ = some (.slice A341_13 ((rd_T40 l0_1 x5_2).f9).length c341_13) ∧ w'.cell? (ad342.add ((x5_2).toNat * 14)) = some (.int .i64 ((rd_T40 l1_1 x5_2).f0.f0)) ∧ w'.cell? ⟨(ad342.add ((x5_2).toNat * 14)).block, (ad342.add ((x5_2).toNat * 14)).off + 1, none⟩ = some (.int .i64 ((rd_T40 l1_1 x5_2).f0.f1)) ∧ w'.cell? ⟨(ad342.add ((x5_2).toNat * 14)).block, (ad342.add ((x5_2).toNat * 14)).off + 2, none⟩ = some (.int .i64 ((rd_T40 l1_1 x5_2).f0.f2)) ∧ w'.cell? ⟨(ad342.add ((x5_2).toNat * 14)).block, (ad342.add ((x5_2).toNat * 14)).off + 3, none⟩ = some (.int .i64 ((rd_T40 l1_1 x5_2).f1)) ∧ w'.cell? ⟨(ad342.add ((x5_2).toNat * 14)).block, (ad342.add ((x5_2).toNat * 14)).off + 4, none⟩ = some (.string ((rd_T40 l1_1 x5_2).f2)) ∧ w'.cell? ⟨(ad342.add ((x5_2).toNat * 14)).block, (ad342.add ((x5_2).toNat * 14)).off + 5, none⟩ = some (.int .i64 ((rd_T40 l1_1 x5_2).f3)) ∧ w'.cell? ⟨(ad342.add ((x5_2).toNat * 14)).block, (ad342.add ((x5_2).toNat * 14)).off + 6, none⟩ = some (.int .i64 ((rd_T40 l1_1 x5_2).f4)) ∧ w'.cell? ⟨(ad342.add ((x5_2).toNat * 14)).block, (ad342.add ((x5_2).toNat * 14)).off + 7, none⟩ = some (.string ((rd_T40 l1_1 x5_2).f5)) ∧ w'.cell? ⟨(ad342.add ((x5_2).toNat * 14)).block, (ad342.add ((x5_2).toNat * 14)).off + 8, none⟩ = some (.int .i64 ((rd_T40 l1_1 x5_2).f6)) ∧ w'.cell? ⟨(ad342.add ((x5_2).toNat * 14)).block, (ad342.add ((x5_2).toNat * 14)).off + 9, none⟩ = some (.int .i64 ((rd_T40 l1_1 x5_2).f7.f0)) ∧ w'.cell? ⟨(ad342.add ((x5_2).toNat * 14)).block, (ad342.add ((x5_2).toNat * 14)).off + 10, none⟩ = some (.int .i64 ((rd_T40 l1_1 x5_2).f7.f1)) ∧ w'.cell? ⟨(ad342.add ((x5_2).toNat * 14)).block, (ad342.add ((x5_2).toNat * 14)).off + 11, none⟩ = some (.int .i64 ((rd_T40 l1_1 x5_2).f7.f2)) ∧ w'.cell? ⟨(ad342.add ((x5_2).toNat * 14)).block, (ad342.add ((x5_2).toNat * 14)).off + 12, none⟩ = some (.slice A342_12 ((rd_T40 l1_1 x5_2).f8).length c342_12) ∧ w'.cell? ⟨(ad342.add ((x5_2).toNat * 14)).block, (ad342.add ((x5_2).toNat * 14)).off + 13, none⟩ = some (.slice A342_13 ((rd_T40 l1_1 x5_2).f9).length c342_13)) (ds := []) (bf_ 12 0) (by kernel_rfl) rfl rfl ⟨(blk_cell BK339.out 0).trans rfl, (blk_cell BK339.out 1).trans rfl, (blk_cell BK340.out 0).trans rfl, (blk_cell BK340.out 1).trans rfl, ((HB.out.cell (World.block_lt_of_cell? w _ hw341_0)).trans hw341_0), ((HB.out.cell (World.block_lt_of_cell? w _ hw341_1)).trans hw341_1), ((HB.out.cell (World.block_lt_of_cell? w _ hw341_2)).trans hw341_2), ((HB.out.cell (World.block_lt_of_cell? w _ hw341_3)).trans hw341_3), ((HB.out.cell (World.block_lt_of_cell? w _ hw341_4)).trans hw341_4), ((HB.out.cell (World.block_lt_of_cell? w _ hw341_5)).trans hw341_5), ((HB.out.cell (World.block_lt_of_cell? w _ hw341_6)).trans hw341_6), ((HB.out.cell (World.block_lt_of_cell? w _ hw341_7)).trans hw341_7), ((HB.out.cell (World.block_lt_of_cell? w _ hw341_8)).trans hw341_8), ((HB.out.cell (World.block_lt_of_cell? w _ hw341_9)).trans hw341_9), ((HB.out.cell (World.block_lt_of_cell? w _ hw341_10)).trans hw341_10), ((HB.out.cell (World.block_lt_of_cell? w _ hw341_11)).trans hw341_11), ((HB.out.cell (World.block_lt_of_cell? w _ hw341_12)).trans hw341_12), ((HB.out.cell (World.block_lt_of_cell? w _ hw341_13)).trans hw341_13), ((HB.out.cell (World.block_lt_of_cell? w _ hw342_0)).trans hw342_0), ((HB.out.cell (World.block_lt_of_cell? w _ hw342_1)).trans hw342_1), ((HB.out.cell (World.block_lt_of_cell? w _ hw342_2)).trans hw342_2), ((HB.out.cell (World.block_lt_of_cell? w _ hw342_3)).trans hw342_3), ((HB.out.cell (World.block_lt_of_cell? w _ hw342_4)).trans hw342_4), ((HB.out.cell (World.block_lt_of_cell? w _ hw342_5)).trans hw342_5), ((HB.out.cell (World.block_lt_of_cell? w _ hw342_6)).trans hw342_6), ((HB.out.cell (World.block_lt_of_cell? w _ hw342_7)).trans hw342_7), ((HB.out.cell (World.block_lt_of_cell? w _ hw342_8)).trans hw342_8), ((HB.out.cell (World.block_lt_of_cell? w _ hw342_9)).trans hw342_9), ((HB.out.cell (World.block_lt_of_cell? w _ hw342_10)).trans hw342_10), ((HB.out.cell (World.block_lt_of_cell? w _ hw342_11)).trans hw342_11), ((HB.out.cell (World.block_lt_of_cell? w _ hw342_12)).trans hw342_12), ((HB.out.cell (World.block_lt_of_cell? w _ hw342_13)).trans hw342_13)⟩ (fun hHeld => ?_); refine with_tabW computusref23_Same.tab6 computusref23_Same.bits6 (fun HT_ HW_ => ?_)
      generalize wr.drew = w25 at BK339 BK340 HB HR341_12 HR341_13 HR342_12 HR342_13 hx341_0 hx341_1 hx341_10 hx341_11 hx341_12 hx341_13 hx341_2 hx341_3 hx341_4 hx341_5 hx341_6 hx341_7 hx341_8 hx341_9 hx342_0 hx342_1 hx342_10 hx342_11 hx342_12 hx342_13 hx342_2 hx342_3 hx342_4 hx342_5 hx342_6 hx342_7 hx342_8 hx342_9 hHeld ⊢
      refine pu_ 0 (some 27) (bf_ 12 1) HT_.out ?_
      refine pu_ 2 (some 29) (bf_ 12 5) HT_.out ?_
      refine pu_ 5 (some 32) (bf_ 12 37) HT_.out ?_
      refine pu_ 7 (some 34) (bf_ 12 165) HT_.out ?_
      refine ta_ 1 (some 28) (bf_ 12 167) HT_.out HW_.out hHeld ?_
      refine pu_ 3 (some 30) (bf_ 12 175) HT_.out ?_
      refine ta_ 4 (some 31) (bf_ 12 191) HT_.out HW_.out hHeld ?_
      refine ta_ 6 (some 33) (bf_ 12 255) HT_.out HW_.out hHeld ?_
      refine pu_ 8 (some 35) (bf_ 12 511) HT_.out ?_
      refine ta_ 9 (some 36) (bf_ 12 1023) HT_.out HW_.out hHeld ?_
      refine one_ (i := 10) (N := some 37) (bf_ 12 2047) rfl rfl (one_of HT_.out (by kernel_rfl)) (by decide) (fun K hK => ?_)
      refine goes_ Tryd.func18 (by kernel_rfl) rfl #[.agg #[.int .i64 ((rd_T40 l0_1 x5_2).f0.f0), .int .i64 ((rd_T40 l0_1 x5_2).f0.f1), .int .i64 ((rd_T40 l0_1 x5_2).f0.f2), .int .i64 ((rd_T40 l0_1 x5_2).f1), .string ((rd_T40 l0_1 x5_2).f2), .int .i64 ((rd_T40 l0_1 x5_2).f3), .int .i64 ((rd_T40 l0_1 x5_2).f4), .string ((rd_T40 l0_1 x5_2).f5), .int .i64 ((rd_T40 l0_1 x5_2).f6), .int .i64 ((rd_T40 l0_1 x5_2).f7.f0), .int .i64 ((rd_T40 l0_1 x5_2).f7.f1), .int .i64 ((rd_T40 l0_1 x5_2).f7.f2), .slice A341_12 ((rd_T40 l0_1 x5_2).f8).length c341_12, .slice A341_13 ((rd_T40 l0_1 x5_2).f9).length c341_13], .agg #[.int .i64 ((rd_T40 l1_1 x5_2).f0.f0), .int .i64 ((rd_T40 l1_1 x5_2).f0.f1), .int .i64 ((rd_T40 l1_1 x5_2).f0.f2), .int .i64 ((rd_T40 l1_1 x5_2).f1), .string ((rd_T40 l1_1 x5_2).f2), .int .i64 ((rd_T40 l1_1 x5_2).f3), .int .i64 ((rd_T40 l1_1 x5_2).f4), .string ((rd_T40 l1_1 x5_2).f5), .int .i64 ((rd_T40 l1_1 x5_2).f6), .int .i64 ((rd_T40 l1_1 x5_2).f7.f0), .int .i64 ((rd_T40 l1_1 x5_2).f7.f1), .int .i64 ((rd_T40 l1_1 x5_2).f7.f2), .slice A342_12 ((rd_T40 l1_1 x5_2).f8).length c342_12, .slice A342_13 ((rd_T40 l1_1 x5_2).f9).length c342_13]] (by rfl) rfl rfl (by (try simp only [List.map_toArray, List.map_cons, List.map_nil]); first | done | rfl | (simp only [List.length_drop, List.length_take]; rfl)) ?_
      with_reducible refine (computusref23_SameEntry.calls k2 ((rd_T40 l0_1 x5_2).f0.f0) ((rd_T40 l0_1 x5_2).f0.f1) ((rd_T40 l0_1 x5_2).f0.f2) ((rd_T40 l0_1 x5_2).f1) ((rd_T40 l0_1 x5_2).f2) ((rd_T40 l0_1 x5_2).f3) ((rd_T40 l0_1 x5_2).f4) ((rd_T40 l0_1 x5_2).f5) ((rd_T40 l0_1 x5_2).f6) ((rd_T40 l0_1 x5_2).f7.f0) ((rd_T40 l0_1 x5_2).f7.f1) ((rd_T40 l0_1 x5_2).f7.f2) _ _ ((rd_T40 l0_1 x5_2).f8) _ _ ((rd_T40 l0_1 x5_2).f9) ((rd_T40 l1_1 x5_2).f0.f0) ((rd_T40 l1_1 x5_2).f0.f1) ((rd_T40 l1_1 x5_2).f0.f2) ((rd_T40 l1_1 x5_2).f1) ((rd_T40 l1_1 x5_2).f2) ((rd_T40 l1_1 x5_2).f3) ((rd_T40 l1_1 x5_2).f4) ((rd_T40 l1_1 x5_2).f5) ((rd_T40 l1_1 x5_2).f6) ((rd_T40 l1_1 x5_2).f7.f0) ((rd_T40 l1_1 x5_2).f7.f1) ((rd_T40 l1_1 x5_2).f7.f2) _ _ ((rd_T40 l1_1 x5_2).f8) _ _ ((rd_T40 l1_1 x5_2).f9) false _ ?side1 ?side2 ?side3 ?side4 ?side5 ?side6 ?side7 ?side8 A17.out).mono ?_
      (case side1 => exact ck_ (Kd.C_below HR341_12.out HB.out))
      (case side2 => exact HC341_12.out)
      (case side3 => exact ck_ (Kd.C_below HR341_13.out HB.out))
      (case side4 => exact HC341_13.out)
      (case side5 => exact ck_ (Kd.C_below HR342_12.out HB.out))
      (case side6 => exact HC342_12.out)
      (case side7 => exact ck_ (Kd.C_below HR342_13.out HB.out))
      (case side8 => exact HC342_13.out)
      rintro e w26 ⟨rfl, hb⟩
      refine ⟨_, rfl, ?_⟩
      replace BK339 := bw_ BK339 hb
      replace BK340 := bw_ BK340 hb
      replace HB := bt_ hb
      (try clear hb)
      (try clear hb2)
      (try clear hk)
      (try clear hi)
      refine hK.out _ _ (by first | exact ⟨(blk_cell BK339.out 0).trans rfl, (blk_cell BK339.out 1).trans rfl, (blk_cell BK340.out 0).trans rfl, (blk_cell BK340.out 1).trans rfl, ((HB.out.cell (World.block_lt_of_cell? w _ hw341_0)).trans hw341_0), ((HB.out.cell (World.block_lt_of_cell? w _ hw341_1)).trans hw341_1), ((HB.out.cell (World.block_lt_of_cell? w _ hw341_2)).trans hw341_2), ((HB.out.cell (World.block_lt_of_cell? w _ hw341_3)).trans hw341_3), ((HB.out.cell (World.block_lt_of_cell? w _ hw341_4)).trans hw341_4), ((HB.out.cell (World.block_lt_of_cell? w _ hw341_5)).trans hw341_5), ((HB.out.cell (World.block_lt_of_cell? w _ hw341_6)).trans hw341_6), ((HB.out.cell (World.block_lt_of_cell? w _ hw341_7)).trans hw341_7), ((HB.out.cell (World.block_lt_of_cell? w _ hw341_8)).trans hw341_8), ((HB.out.cell (World.block_lt_of_cell? w _ hw341_9)).trans hw341_9), ((HB.out.cell (World.block_lt_of_cell? w _ hw341_10)).trans hw341_10), ((HB.out.cell (World.block_lt_of_cell? w _ hw341_11)).trans hw341_11), ((HB.out.cell (World.block_lt_of_cell? w _ hw341_12)).trans hw341_12), ((HB.out.cell (World.block_lt_of_cell? w _ hw341_13)).trans hw341_13), ((HB.out.cell (World.block_lt_of_cell? w _ hw342_0)).trans hw342_0), ((HB.out.cell (World.block_lt_of_cell? w _ hw342_1)).trans hw342_1), ((HB.out.cell (World.block_lt_of_cell? w _ hw342_2)).trans hw342_2), ((HB.out.cell (World.block_lt_of_cell? w _ hw342_3)).trans hw342_3), ((HB.out.cell (World.block_lt_of_cell? w _ hw342_4)).trans hw342_4), ((HB.out.cell (World.block_lt_of_cell? w _ hw342_5)).trans hw342_5), ((HB.out.cell (World.block_lt_of_cell? w _ hw342_6)).trans hw342_6), ((HB.out.cell (World.block_lt_of_cell? w _ hw342_7)).trans hw342_7), ((HB.out.cell (World.block_lt_of_cell? w _ hw342_8)).trans hw342_8), ((HB.out.cell (World.block_lt_of_cell? w _ hw342_9)).trans hw342_9), ((HB.out.cell (World.block_lt_of_cell? w _ hw342_10)).trans hw342_10), ((HB.out.cell (World.block_lt_of_cell? w _ hw342_11)).trans hw342_11), ((HB.out.cell (World.block_lt_of_cell? w _ hw342_12)).trans hw342_12), ((HB.out.cell (World.block_lt_of_cell? w _ hw342_13)).trans hw342_13)⟩ | exact hHeld) (fun hHeld => ?_)
      clear hK K
      refine norm_ (a' := ?_) ?_ ?_
      rotate_left
      ·show Act.put _ (some 37) _ = _
       simp only [Act.put, sA_, sZ_, sS_, i64_w, i32_w]
       rfl
      refine pu_ 11 (some 38) (bf_ 12 4095) HT_.out ?_
      refine done_ (done_of HT_.out (by kernel_rfl)) ?_
      try go_wp2
      go_ret
      exact rt_
     subst c18
     replace H := it_ H
     have H' := am_ H
     clear H
     have hnb19 := NB339_340.out
     have hnc19 := NB340_339.out
     obtain ⟨hcz20_0, hcz20_1⟩ := cz2_ BK339.out
     obtain ⟨hfz20_0, hfz20_1⟩ := fz2_ BK339.out
     try go_wp2
     replace BK339 := am_ (blk_drew BK339.out)
     replace BK340 := am_ (blk_drew BK340.out)
     replace HB := am_ (below_drew1 HB.out)
     have p341 : 0 ≤ (x5_2 : Int) := of_decide_eq_true as_
     have q341 : x5_2 < (l0_1.length : Int) := of_decide_eq_true as_
     obtain ⟨ad341, A341_12, c341_12, A341_13, c341_13, e341, hx341_0, hx341_1, hx341_2, hx341_3, hx341_4, hx341_5, hx341_6, hx341_7, hx341_8, hx341_9, hx341_10, hx341_11, hx341_12, hx341_13, hl341_12, hi341_12, hl341_13, hi341_13⟩ := at_T40 HR0_1.out x5_2 p341 q341
     have hw341_13 := hx341_13
     have hw341_12 := hx341_12
     have hw341_11 := hx341_11
     have hw341_10 := hx341_10
     have hw341_9 := hx341_9
     have hw341_8 := hx341_8
     have hw341_7 := hx341_7
     have hw341_6 := hx341_6
     have hw341_5 := hx341_5
     have hw341_4 := hx341_4
     have hw341_3 := hx341_3
     have hw341_2 := hx341_2
     have hw341_1 := hx341_1
     have hw341_0 := hx341_0
     cases e341
     replace hx341_0 := cm_ HB.out hx341_0
     replace hx341_1 := cm_ HB.out hx341_1
     replace hx341_2 := cm_ HB.out hx341_2
     replace hx341_3 := cm_ HB.out hx341_3
     replace hx341_4 := cm_ HB.out hx341_4
     replace hx341_5 := cm_ HB.out hx341_5
     replace hx341_6 := cm_ HB.out hx341_6
     replace hx341_7 := cm_ HB.out hx341_7
     replace hx341_8 := cm_ HB.out hx341_8
     replace hx341_9 := cm_ HB.out hx341_9
     replace hx341_10 := cm_ HB.out hx341_10
     replace hx341_11 := cm_ HB.out hx341_11
     replace hx341_12 := cm_ HB.out hx341_12
     replace hx341_13 := cm_ HB.out hx341_13
     have HR341_12 := am_ hi341_12
     have HC341_12 := am_ hl341_12
     clear hi341_12 hl341_12
     have HR341_13 := am_ hi341_13
     have HC341_13 := am_ hl341_13
     clear hi341_13 hl341_13
     replace p341 := eq_true p341
     replace q341 := eq_true q341
     have p342 : 0 ≤ (x5_2 : Int) := of_decide_eq_true as_
     have q342 : x5_2 < (l1_1.length : Int) := of_decide_eq_true as_
     obtain ⟨ad342, A342_12, c342_12, A342_13, c342_13, e342, hx342_0, hx342_1, hx342_2, hx342_3, hx342_4, hx342_5, hx342_6, hx342_7, hx342_8, hx342_9, hx342_10, hx342_11, hx342_12, hx342_13, hl342_12, hi342_12, hl342_13, hi342_13⟩ := at_T40 HR1_1.out x5_2 p342 q342
     have hw342_13 := hx342_13
     have hw342_12 := hx342_12
     have hw342_11 := hx342_11
     have hw342_10 := hx342_10
     have hw342_9 := hx342_9
     have hw342_8 := hx342_8
     have hw342_7 := hx342_7
     have hw342_6 := hx342_6
     have hw342_5 := hx342_5
     have hw342_4 := hx342_4
     have hw342_3 := hx342_3
     have hw342_2 := hx342_2
     have hw342_1 := hx342_1
     have hw342_0 := hx342_0
     cases e342
     replace hx342_0 := cm_ HB.out hx342_0
     replace hx342_1 := cm_ HB.out hx342_1
     replace hx342_2 := cm_ HB.out hx342_2
     replace hx342_3 := cm_ HB.out hx342_3
     replace hx342_4 := cm_ HB.out hx342_4
     replace hx342_5 := cm_ HB.out hx342_5
     replace hx342_6 := cm_ HB.out hx342_6
     replace hx342_7 := cm_ HB.out hx342_7
     replace hx342_8 := cm_ HB.out hx342_8
     replace hx342_9 := cm_ HB.out hx342_9
     replace hx342_10 := cm_ HB.out hx342_10
     replace hx342_11 := cm_ HB.out hx342_11
     replace hx342_12 := cm_ HB.out hx342_12
     replace hx342_13 := cm_ HB.out hx342_13
     have HR342_12 := am_ hi342_12
     have HC342_12 := am_ hl342_12
     clear hi342_12 hl342_12
     have HR342_13 := am_ hi342_13
     have HC342_13 := am_ hl342_13
     clear hi342_13 hl342_13
     replace p342 := eq_true p342
     replace q342 := eq_true q342
     refine start_ (n := 12) (S := fun w' => w'.cell? ⟨gb339, 0, none⟩ = some (.int .i64 a0_0) ∧ w'.cell? ⟨gb339, 1, none⟩ = some (.slice (some ad341) l0_1.length c0_1) ∧ w'.cell? ⟨gb340, 0, none⟩ = some (.int .i64 a1_0) ∧ w'.cell? ⟨gb340, 1, none⟩ = some (.slice (some ad342) l1_1.length c1_1) ∧ w'.cell? (ad341.add ((x5_2).toNat * 14)) = some (.int .i64 ((rd_T40 l0_1 x5_2).f0.f0)) ∧ w'.cell? ⟨(ad341.add ((x5_2).toNat * 14)).block, (ad341.add ((x5_2).toNat * 14)).off + 1, none⟩ = some (.int .i64 ((rd_T40 l0_1 x5_2).f0.f1)) ∧ w'.cell? ⟨(ad341.add ((x5_2).toNat * 14)).block, (ad341.add ((x5_2).toNat * 14)).off + 2, none⟩ = some (.int .i64 ((rd_T40 l0_1 x5_2).f0.f2)) ∧ w'.cell? ⟨(ad341.add ((x5_2).toNat * 14)).block, (ad341.add ((x5_2).toNat * 14)).off + 3, none⟩ = some (.int .i64 ((rd_T40 l0_1 x5_2).f1)) ∧ w'.cell? ⟨(ad341.add ((x5_2).toNat * 14)).block, (ad341.add ((x5_2).toNat * 14)).off + 4, none⟩ = some (.string ((rd_T40 l0_1 x5_2).f2)) ∧ w'.cell? ⟨(ad341.add ((x5_2).toNat * 14)).block, (ad341.add ((x5_2).toNat * 14)).off + 5, none⟩ = some (.int .i64 ((rd_T40 l0_1 x5_2).f3)) ∧ w'.cell? ⟨(ad341.add ((x5_2).toNat * 14)).block, (ad341.add ((x5_2).toNat * 14)).off + 6, none⟩ = some (.int .i64 ((rd_T40 l0_1 x5_2).f4)) ∧ w'.cell? ⟨(ad341.add ((x5_2).toNat * 14)).block, (ad341.add ((x5_2).toNat * 14)).off + 7, none⟩ = some (.string ((rd_T40 l0_1 x5_2).f5)) ∧ w'.cell? ⟨(ad341.add ((x5_2).toNat * 14)).block, (ad341.add ((x5_2).toNat * 14)).off + 8, none⟩ = some (.int .i64 ((rd_T40 l0_1 x5_2).f6)) ∧ w'.cell? ⟨(ad341.add ((x5_2).toNat * 14)).block, (ad341.add ((x5_2).toNat * 14)).off + 9, none⟩ = some (.int .i64 ((rd_T40 l0_1 x5_2).f7.f0)) ∧ w'.cell? ⟨(ad341.add ((x5_2).toNat * 14)).block, (ad341.add ((x5_2).toNat * 14)).off + 10, none⟩ = some (.int .i64 ((rd_T40 l0_1 x5_2).f7.f1)) ∧ w'.cell? ⟨(ad341.add ((x5_2).toNat * 14)).block, (ad341.add ((x5_2).toNat * 14)).off + 11, none⟩ = some (.int .i64 ((rd_T40 l0_1 x5_2).f7.f2)) ∧ w'.cell? ⟨(ad341.add ((x5_2).toNat * 14)).block, (ad341.add ((x5_2).toNat * 14)).off + 12, none⟩ = some (.slice A341_12 ((rd_T40 l0_1 x5_2).f8).length c341_12) ∧ w'.cell? ⟨(ad341.add ((x5_2).toNat * 14)).block, (ad341.add ((x5_2).toNat * 14)).off + 13, none⟩ = some (.slice A341_13 ((rd_T40 l0_1 x5_2).f9).length c341_13) ∧ w'.cell? (ad342.add ((x5_2).toNat * 14)) = some (.int .i64 ((rd_T40 l1_1 x5_2).f0.f0)) ∧ w'.cell? ⟨(ad342.add ((x5_2).toNat * 14)).block, (ad342.add ((x5_2).toNat * 14)).off + 1, none⟩ = some (.int .i64 ((rd_T40 l1_1 x5_2).f0.f1)) ∧ w'.cell? ⟨(ad342.add ((x5_2).toNat * 14)).block, (ad342.add ((x5_2).toNat * 14)).off + 2, none⟩ = some (.int .i64 ((rd_T40 l1_1 x5_2).f0.f2)) ∧ w'.cell? ⟨(ad342.add ((x5_2).toNat * 14)).block, (ad342.add ((x5_2).toNat * 14)).off + 3, none⟩ = some (.int .i64 ((rd_T40 l1_1 x5_2).f1)) ∧ w'.cell? ⟨(ad342.add ((x5_2).toNat * 14)).block, (ad342.add ((x5_2).toNat * 14)).off + 4, none⟩ = some (.string ((rd_T40 l1_1 x5_2).f2)) ∧ w'.cell? ⟨(ad342.add ((x5_2).toNat * 14)).block, (ad342.add ((x5_2).toNat * 14)).off + 5, none⟩ = some (.int .i64 ((rd_T40 l1_1 x5_2).f3)) ∧ w'.cell? ⟨(ad342.add ((x5_2).toNat * 14)).block, (ad342.add ((x5_2).toNat * 14)).off + 6, none⟩ = some (.int .i64 ((rd_T40 l1_1 x5_2).f4)) ∧ w'.cell? ⟨(ad342.add ((x5_2).toNat * 14)).block, (ad342.add ((x5_2).toNat * 14)).off + 7, none⟩ = some (.string ((rd_T40 l1_1 x5_2).f5)) ∧ w'.cell? ⟨(ad342.add ((x5_2).toNat * 14)).block, (ad342.add ((x5_2).toNat * 14)).off + 8, none⟩ = some (.int .i64 ((rd_T40 l1_1 x5_2).f6)) ∧ w'.cell? ⟨(ad342.add ((x5_2).toNat * 14)).block, (ad342.add ((x5_2).toNat * 14)).off + 9, none⟩ = some (.int .i64 ((rd_T40 l1_1 x5_2).f7.f0)) ∧ w'.cell? ⟨(ad342.add ((x5_2).toNat * 14)).block, (ad342.add ((x5_2).toNat * 14)).off + 10, none⟩ = some (.int .i64 ((rd_T40 l1_1 x5_2).f7.f1)) ∧ w'.cell? ⟨(ad342.add ((x5_2).toNat * 14)).block, (ad342.add ((x5_2).toNat * 14)).off + 11, none⟩ = some (.int .i64 ((rd_T40 l1_1 x5_2).f7.f2)) ∧ w'.cell? ⟨(ad342.add ((x5_2).toNat * 14)).block, (ad342.add ((x5_2).toNat * 14)).off + 12, none⟩ = some (.slice A342_12 ((rd_T40 l1_1 x5_2).f8).length c342_12) ∧ w'.cell? ⟨(ad342.add ((x5_2).toNat * 14)).block, (ad342.add ((x5_2).toNat * 14)).off + 13, none⟩ = some (.slice A342_13 ((rd_T40 l1_1 x5_2).f9).length c342_13)) (ds := []) (bf_ 12 0) (by kernel_rfl) rfl rfl ⟨(blk_cell BK339.out 0).trans rfl, (blk_cell BK339.out 1).trans rfl, (blk_cell BK340.out 0).trans rfl, (blk_cell BK340.out 1).trans rfl, ((HB.out.cell (World.block_lt_of_cell? w _ hw341_0)).trans hw341_0), ((HB.out.cell (World.block_lt_of_cell? w _ hw341_1)).trans hw341_1), ((HB.out.cell (World.block_lt_of_cell? w _ hw341_2)).trans hw341_2), ((HB.out.cell (World.block_lt_of_cell? w _ hw341_3)).trans hw341_3), ((HB.out.cell (World.block_lt_of_cell? w _ hw341_4)).trans hw341_4), ((HB.out.cell (World.block_lt_of_cell? w _ hw341_5)).trans hw341_5), ((HB.out.cell (World.block_lt_of_cell? w _ hw341_6)).trans hw341_6), ((HB.out.cell (World.block_lt_of_cell? w _ hw341_7)).trans hw341_7), ((HB.out.cell (World.block_lt_of_cell? w _ hw341_8)).trans hw341_8), ((HB.out.cell (World.block_lt_of_cell? w _ hw341_9)).trans hw341_9), ((HB.out.cell (World.block_lt_of_cell? w _ hw341_10)).trans hw341_10), ((HB.out.cell (World.block_lt_of_cell? w _ hw341_11)).trans hw341_11), ((HB.out.cell (World.block_lt_of_cell? w _ hw341_12)).trans hw341_12), ((HB.out.cell (World.block_lt_of_cell? w _ hw341_13)).trans hw341_13), ((HB.out.cell (World.block_lt_of_cell? w _ hw342_0)).trans hw342_0), ((HB.out.cell (World.block_lt_of_cell? w _ hw342_1)).trans hw342_1), ((HB.out.cell (World.block_lt_of_cell? w _ hw342_2)).trans hw342_2), ((HB.out.cell (World.block_lt_of_cell? w _ hw342_3)).trans hw342_3), ((HB.out.cell (World.block_lt_of_cell? w _ hw342_4)).trans hw342_4), ((HB.out.cell (World.block_lt_of_cell? w _ hw342_5)).trans hw342_5), ((HB.out.cell (World.block_lt_of_cell? w _ hw342_6)).trans hw342_6), ((HB.out.cell (World.block_lt_of_cell? w _ hw342_7)).trans hw342_7), ((HB.out.cell (World.block_lt_of_cell? w _ hw342_8)).trans hw342_8), ((HB.out.cell (World.block_lt_of_cell? w _ hw342_9)).trans hw342_9), ((HB.out.cell (World.block_lt_of_cell? w _ hw342_10)).trans hw342_10), ((HB.out.cell (World.block_lt_of_cell? w _ hw342_11)).trans hw342_11), ((HB.out.cell (World.block_lt_of_cell? w _ hw342_12)).trans hw342_12), ((HB.out.cell (World.block_lt_of_cell? w _ hw342_13)).trans hw342_13)⟩ (fun hHeld => ?_); refine with_tabW computusref23_Same.tab6 computusref23_Same.bits6 (fun HT_ HW_ => ?_)
     generalize wr.drew = w21 at BK339 BK340 HB HR341_12 HR341_13 HR342_12 HR342_13 hx341_0 hx341_1 hx341_10 hx341_11 hx341_12 hx341_13 hx341_2 hx341_3 hx341_4 hx341_5 hx341_6 hx341_7 hx341_8 hx341_9 hx342_0 hx342_1 hx342_10 hx342_11 hx342_12 hx342_13 hx342_2 hx342_3 hx342_4 hx342_5 hx342_6 hx342_7 hx342_8 hx342_9 hHeld ⊢
     refine pu_ 0 (some 27) (bf_ 12 1) HT_.out ?_
     refine pu_ 2 (some 29) (bf_ 12 5) HT_.out ?_
     refine pu_ 5 (some 32) (bf_ 12 37) HT_.out ?_
     refine pu_ 7 (some 34) (bf_ 12 165) HT_.out ?_
     refine ta_ 1 (some 28) (bf_ 12 167) HT_.out HW_.out hHeld ?_
     refine pu_ 3 (some 30) (bf_ 12 175) HT_.out ?_
     refine ta_ 4 (some 31) (bf_ 12 191) HT_.out HW_.out hHeld ?_
     refine ta_ 6 (some 33) (bf_ 12 255) HT_.out HW_.out hHeld ?_
     refine pu_ 8 (some 35) (bf_ 12 511) HT_.out ?_
     refine ta_ 9 (some 36) (bf_ 12 1023) HT_.out HW_.out hHeld ?_
     refine one_ (i := 10) (N := some 37) (bf_ 12 2047) rfl rfl (one_of HT_.out (by kernel_rfl)) (by decide) (fun K hK => ?_)
     refine goes_ Tryd.func18 (by kernel_rfl) rfl #[.agg #[.int .i64 ((rd_T40 l0_1 x5_2).f0.f0), .int .i64 ((rd_T40 l0_1 x5_2).f0.f1), .int .i64 ((rd_T40 l0_1 x5_2).f0.f2), .int .i64 ((rd_T40 l0_1 x5_2).f1), .string ((rd_T40 l0_1 x5_2).f2), .int .i64 ((rd_T40 l0_1 x5_2).f3), .int .i64 ((rd_T40 l0_1 x5_2).f4), .string ((rd_T40 l0_1 x5_2).f5), .int .i64 ((rd_T40 l0_1 x5_2).f6), .int .i64 ((rd_T40 l0_1 x5_2).f7.f0), .int .i64 ((rd_T40 l0_1 x5_2).f7.f1), .int .i64 ((rd_T40 l0_1 x5_2).f7.f2), .slice A341_12 ((rd_T40 l0_1 x5_2).f8).length c341_12, .slice A341_13 ((rd_T40 l0_1 x5_2).f9).length c341_13], .agg #[.int .i64 ((rd_T40 l1_1 x5_2).f0.f0), .int .i64 ((rd_T40 l1_1 x5_2).f0.f1), .int .i64 ((rd_T40 l1_1 x5_2).f0.f2), .int .i64 ((rd_T40 l1_1 x5_2).f1), .string ((rd_T40 l1_1 x5_2).f2), .int .i64 ((rd_T40 l1_1 x5_2).f3), .int .i64 ((rd_T40 l1_1 x5_2).f4), .string ((rd_T40 l1_1 x5_2).f5), .int .i64 ((rd_T40 l1_1 x5_2).f6), .int .i64 ((rd_T40 l1_1 x5_2).f7.f0), .int .i64 ((rd_T40 l1_1 x5_2).f7.f1), .int .i64 ((rd_T40 l1_1 x5_2).f7.f2), .slice A342_12 ((rd_T40 l1_1 x5_2).f8).length c342_12, .slice A342_13 ((rd_T40 l1_1 x5_2).f9).length c342_13]] (by rfl) rfl rfl (by (try simp only [List.map_toArray, List.map_cons, List.map_nil]); first | done | rfl | (simp only [List.length_drop, List.length_take]; rfl)) ?_
     with_reducible refine (computusref23_SameEntry.calls k2 ((rd_T40 l0_1 x5_2).f0.f0) ((rd_T40 l0_1 x5_2).f0.f1) ((rd_T40 l0_1 x5_2).f0.f2) ((rd_T40 l0_1 x5_2).f1) ((rd_T40 l0_1 x5_2).f2) ((rd_T40 l0_1 x5_2).f3) ((rd_T40 l0_1 x5_2).f4) ((rd_T40 l0_1 x5_2).f5) ((rd_T40 l0_1 x5_2).f6) ((rd_T40 l0_1 x5_2).f7.f0) ((rd_T40 l0_1 x5_2).f7.f1) ((rd_T40 l0_1 x5_2).f7.f2) _ _ ((rd_T40 l0_1 x5_2).f8) _ _ ((rd_T40 l0_1 x5_2).f9) ((rd_T40 l1_1 x5_2).f0.f0) ((rd_T40 l1_1 x5_2).f0.f1) ((rd_T40 l1_1 x5_2).f0.f2) ((rd_T40 l1_1 x5_2).f1) ((rd_T40 l1_1 x5_2).f2) ((rd_T40 l1_1 x5_2).f3) ((rd_T40 l1_1 x5_2).f4) ((rd_T40 l1_1 x5_2).f5) ((rd_T40 l1_1 x5_2).f6) ((rd_T40 l1_1 x5_2).f7.f0) ((rd_T40 l1_1 x5_2).f7.f1) ((rd_T40 l1_1 x5_2).f7.f2) _ _ ((rd_T40 l1_1 x5_2).f8) _ _ ((rd_T40 l1_1 x5_2).f9) true _ ?side1 ?side2 ?side3 ?side4 ?side5 ?side6 ?side7 ?side8 A17.out).mono ?_
     (case side1 => exact ck_ (Kd.C_below HR341_12.out HB.out))
     (case side2 => exact HC341_12.out)
     (case side3 => exact ck_ (Kd.C_below HR341_13.out HB.out))
     (case side4 => exact HC341_13.out)
     (case side5 => exact ck_ (Kd.C_below HR342_12.out HB.out))
     (case side6 => exact HC342_12.out)
     (case side7 => exact ck_ (Kd.C_below HR342_13.out HB.out))
     (case side8 => exact HC342_13.out)
     rintro e w22 ⟨rfl, hb⟩
     refine ⟨_, rfl, ?_⟩
     replace BK339 := bw_ BK339 hb
     replace BK340 := bw_ BK340 hb
     replace HB := bt_ hb
     (try clear hb)
     (try clear hb2)
     (try clear hk)
     (try clear hi)
     refine hK.out _ _ (by first | exact ⟨(blk_cell BK339.out 0).trans rfl, (blk_cell BK339.out 1).trans rfl, (blk_cell BK340.out 0).trans rfl, (blk_cell BK340.out 1).trans rfl, ((HB.out.cell (World.block_lt_of_cell? w _ hw341_0)).trans hw341_0), ((HB.out.cell (World.block_lt_of_cell? w _ hw341_1)).trans hw341_1), ((HB.out.cell (World.block_lt_of_cell? w _ hw341_2)).trans hw341_2), ((HB.out.cell (World.block_lt_of_cell? w _ hw341_3)).trans hw341_3), ((HB.out.cell (World.block_lt_of_cell? w _ hw341_4)).trans hw341_4), ((HB.out.cell (World.block_lt_of_cell? w _ hw341_5)).trans hw341_5), ((HB.out.cell (World.block_lt_of_cell? w _ hw341_6)).trans hw341_6), ((HB.out.cell (World.block_lt_of_cell? w _ hw341_7)).trans hw341_7), ((HB.out.cell (World.block_lt_of_cell? w _ hw341_8)).trans hw341_8), ((HB.out.cell (World.block_lt_of_cell? w _ hw341_9)).trans hw341_9), ((HB.out.cell (World.block_lt_of_cell? w _ hw341_10)).trans hw341_10), ((HB.out.cell (World.block_lt_of_cell? w _ hw341_11)).trans hw341_11), ((HB.out.cell (World.block_lt_of_cell? w _ hw341_12)).trans hw341_12), ((HB.out.cell (World.block_lt_of_cell? w _ hw341_13)).trans hw341_13), ((HB.out.cell (World.block_lt_of_cell? w _ hw342_0)).trans hw342_0), ((HB.out.cell (World.block_lt_of_cell? w _ hw342_1)).trans hw342_1), ((HB.out.cell (World.block_lt_of_cell? w _ hw342_2)).trans hw342_2), ((HB.out.cell (World.block_lt_of_cell? w _ hw342_3)).trans hw342_3), ((HB.out.cell (World.block_lt_of_cell? w _ hw342_4)).trans hw342_4), ((HB.out.cell (World.block_lt_of_cell? w _ hw342_5)).trans hw342_5), ((HB.out.cell (World.block_lt_of_cell? w _ hw342_6)).trans hw342_6), ((HB.out.cell (World.block_lt_of_cell? w _ hw342_7)).trans hw342_7), ((HB.out.cell (World.block_lt_of_cell? w _ hw342_8)).trans hw342_8), ((HB.out.cell (World.block_lt_of_cell? w _ hw342_9)).trans hw342_9), ((HB.out.cell (World.block_lt_of_cell? w _ hw342_10)).trans hw342_10), ((HB.out.cell (World.block_lt_of_cell? w _ hw342_11)).trans hw342_11), ((HB.out.cell (World.block_lt_of_cell? w _ hw342_12)).trans hw342_12), ((HB.out.cell (World.block_lt_of_cell? w _ hw342_13)).trans hw342_13)⟩ | exact hHeld) (fun hHeld => ?_)
     clear hK K
     refine norm_ (a' := ?_) ?_ ?_
     rotate_left
     ·show Act.put _ (some 37) _ = _
      simp only [Act.put, sA_, sZ_, sS_, i64_w, i32_w]
      rfl
     refine pu_ 11 (some 38) (bf_ 12 4095) HT_.out ?_
     refine done_ (done_of HT_.out (by kernel_rfl)) ?_
     try go_wp2
     go_roundg k2
     case measure => have := HJ2.out; have := HK2.out; omega
     case rel => exact ⟨(wrap64 (x5_2 + 1)), rs_, H', ⟨by have := HJ2.out; have := HK2.out; omega⟩, ⟨bk_ BK339.out⟩, ⟨bk_ BK340.out⟩, ⟨bh_⟩⟩
def computuslaw27_few.l0 : Nat → Int → Int → Int → List (S40) → Option (Bool)
 | 0, _, _, _, _ => none
 | k + 1, x3, x4, x362000, x362001 => if x4 < (x362001.length : Int) then (if 0 ≤ x4 then (if (((rd_T40 x362001 x4).f8).length : Int) > 100 then (some false) else (if (((rd_T40 x362001 x4).f9).length : Int) > 100 then (some false) else (computuslaw27_few.l0 k (wrap64 ((wrap64 (x3 + (((rd_T40 x362001 x4).f8).length : Int))) + (((rd_T40 x362001 x4).f9).length : Int))) (wrap64 (x4 + 1)) x362000 x362001))) else (none)) else (some (decide (x3 ≤ 500)))
def computuslaw27_few.f (k : Nat) (a0_0 : Int) (l0_1 : List (S40)) : Option (Bool) := if (l0_1.length : Int) > 400 then (some false) else (computuslaw27_few.l0 k 0 0 a0_0 l0_1)
theorem computuslaw27_few.calls (k : Nat) (a0_0 : Int) (A0_1 : Option Addr) (c0_1 : Nat) (l0_1 : List (S40)) (r : Bool) (w : World) (hr0_1 : Kd.C k40 w A0_1 l0_1.length l0_1) (hc0_1 : l0_1.length ≤ c0_1) (h : computuslaw27_few.f k a0_0 l0_1 = some r) :
  Calls Tryd.prog 12 #[.agg #[.int .i64 a0_0, .slice A0_1 l0_1.length c0_1]] w fun e w' => e = .returned (.bool r) ∧ Below w.heap.size w w' := by
 have hu25 := Tryd.underlying25
 have HR0_1 := am_ hr0_1
 have HC0_1 := am_ hc0_1
 clear hr0_1 hc0_1
 have HB := am_ (Below.refl w.heap.size w)
 have H := h
 clear h
 unfold computuslaw27_few.f at H
 by_cases c2 : (l0_1.length : Int) > 400
 ·rw [if_pos c2] at H
  have c2b0 : decide (400 < (l0_1.length : Int)) = true := decide_eq_true c2
  have c2b1 : decide (400 < l0_1.length) = true := decide_eq_true (by omega)
  clear c2
  obtain rfl := Option.some.inj H
  go_enter Tryd.func12, Tryd.ntmps12
  go_wp2_with (first | ((with_reducible refine gate_dst (N := 1) rfl ?_); (try (refine gate_guard (by rfl) ?_; dsimp only)); refine bx_ (w := w) (N := 1) (cs := #[.int .i64 a0_0, .slice A0_1 l0_1.length c0_1]) (t := 25) ?_; intro gb361 w3 BK361 n0_ GW361 GE361; clear HB; have HB := n0_; clear n0_; obtain ⟨hcz4_0, hcz4_1⟩ := cz2_ BK361.out; obtain ⟨hfz4_0, hfz4_1⟩ := fz2_ BK361.out))
  go_ret
  exact rt_
 rw [if_neg c2] at H
 have c2b0 : decide (400 < (l0_1.length : Int)) = false := decide_eq_false c2
 have c2b1 : decide (400 < l0_1.length) = false := decide_eq_false (by omega)
 clear c2
 have H' := am_ H
 clear H
 go_enter Tryd.func12, Tryd.ntmps12
 go_wp2_with (first | ((with_reducible refine gate_dst (N := 1) rfl ?_); (try (refine gate_guard (by rfl) ?_; dsimp only)); refine bx_ (w := w) (N := 1) (cs := #[.int .i64 a0_0, .slice A0_1 l0_1.length c0_1]) (t := 25) ?_; intro gb361 w5 BK361 n0_ GW361 GE361; clear HB; have HB := n0_; clear n0_; obtain ⟨hcz6_0, hcz6_1⟩ := cz2_ BK361.out; obtain ⟨hfz6_0, hfz6_1⟩ := fz2_ BK361.out))
 go_loopg [3, 4] k (fun kq v3 v4 w' => ∃ (x3_1 : Int) (x4_1 : Int), v3 = .int .i64 x3_1 ∧ v4 = .int .i64 x4_1 ∧ Aside0 (computuslaw27_few.l0 kq x3_1 x4_1 a0_0 l0_1 = some r) ∧ Aside0 (kq ≤ k) ∧ Aside0 (w'.heap[gb361]? = some (.cells #[.int .i64 a0_0, (.slice A0_1 l0_1.length c0_1)] 25 (0, 0))) ∧ Aside0 (Below w.heap.size w w'))
 case atStart => exact ⟨(0), (0), rs_, rs_, H', ⟨Nat.le_refl _⟩, ⟨bk_ BK361.out⟩, ⟨bh_⟩⟩
 case round =>
  clear H'
  obtain ⟨x3_1, x4_1, rfl, rfl, HA, HK1, BK361, HB⟩ := hrel
  cases gk with
  | zero => exact absurd HA.out (by simp [computuslaw27_few.l0])
  | succ k1 =>
   have H := HA.out
   clear HA
   simp only [computuslaw27_few.l0] at H
   by_cases c7 : x4_1 < (l0_1.length : Int)
   rotate_left
   ·rw [if_neg c7] at H
    have c7b0 : decide (x4_1 < (l0_1.length : Int)) = false := decide_eq_false c7
    clear c7
    obtain rfl := Option.some.inj H
    obtain ⟨hcz14_0, hcz14_1⟩ := cz2_ BK361.out
    obtain ⟨hfz14_0, hfz14_1⟩ := fz2_ BK361.out
    go_wp2
    repeat (go_quiet (fail); try go_wp2)
    go_ret
    exact rt_
   rw [if_pos c7] at H
   have c7b0 : decide (x4_1 < (l0_1.length : Int)) = true := decide_eq_true c7
   clear c7
   by_cases c8 : 0 ≤ x4_1
   rotate_left
   ·rw [if_neg c8] at H
    exact absurd H (by simp)
   rw [if_pos c8] at H
   have c8b0 : decide (0 ≤ x4_1) = true := decide_eq_true c8
   clear c8
   by_cases c9 : (((rd_T40 l0_1 x4_1).f8).length : Int) > 100
   ·rw [if_pos c9] at H
    have c9b0 : decide (100 < (((rd_T40 l0_1 x4_1).f8).length : Int)) = true := decide_eq_true c9
    have c9b1 : decide (100 < ((rd_T40 l0_1 x4_1).f8).length) = true := decide_eq_true (by omega)
    clear c9
    obtain rfl := Option.some.inj H
    obtain ⟨hcz10_0, hcz10_1⟩ := cz2_ BK361.out
    obtain ⟨hfz10_0, hfz10_1⟩ := fz2_ BK361.out
    have p362 : 0 ≤ (x4_1 : Int) := of_decide_eq_true as_
    have q362 : x4_1 < (l0_1.length : Int) := of_decide_eq_true as_
    obtain ⟨ad362, A362_12, c362_12, A362_13, c362_13, e362, hx362_0, hx362_1, hx362_2, hx362_3, hx362_4, hx362_5, hx362_6, hx362_7, hx362_8, hx362_9, hx362_10, hx362_11, hx362_12, hx362_13, hl362_12, hi362_12, hl362_13, hi362_13⟩ := at_T40 HR0_1.out x4_1 p362 q362
    cases e362
    replace hx362_0 := cm_ HB.out hx362_0
    replace hx362_1 := cm_ HB.out hx362_1
    replace hx362_2 := cm_ HB.out hx362_2
    replace hx362_3 := cm_ HB.out hx362_3
    replace hx362_4 := cm_ HB.out hx362_4
    replace hx362_5 := cm_ HB.out hx362_5
    replace hx362_6 := cm_ HB.out hx362_6
    replace hx362_7 := cm_ HB.out hx362_7
    replace hx362_8 := cm_ HB.out hx362_8
    replace hx362_9 := cm_ HB.out hx362_9
    replace hx362_10 := cm_ HB.out hx362_10
    replace hx362_11 := cm_ HB.out hx362_11
    replace hx362_12 := cm_ HB.out hx362_12
    replace hx362_13 := cm_ HB.out hx362_13
    have HR362_12 := am_ hi362_12
    have HC362_12 := am_ hl362_12
    clear hi362_12 hl362_12
    have HR362_13 := am_ hi362_13
    have HC362_13 := am_ hl362_13
    clear hi362_13 hl362_13
    replace p362 := eq_true p362
    replace q362 := eq_true q362
    go_wp2
    repeat (go_quiet (fail); try go_wp2)
    go_ret
    exact rt_
   rw [if_neg c9] at H
   have c9b0 : decide (100 < (((rd_T40 l0_1 x4_1).f8).length : Int)) = false := decide_eq_false c9
   have c9b1 : decide (100 < ((rd_T40 l0_1 x4_1).f8).length) = false := decide_eq_false (by omega)
   clear c9
   by_cases c11 : (((rd_T40 l0_1 x4_1).f9).length : Int) > 100
   ·rw [if_pos c11] at H
    have c11b0 : decide (100 < (((rd_T40 l0_1 x4_1).f9).length : Int)) = true := decide_eq_true c11
    have c11b1 : decide (100 < ((rd_T40 l0_1 x4_1).f9).length) = true := decide_eq_true (by omega)
    clear c11
    obtain rfl := Option.some.inj H
    obtain ⟨hcz12_0, hcz12_1⟩ := cz2_ BK361.out
    obtain ⟨hfz12_0, hfz12_1⟩ := fz2_ BK361.out
    have p362 : 0 ≤ (x4_1 : Int) := of_decide_eq_true as_
    have q362 : x4_1 < (l0_1.length : Int) := of_decide_eq_true as_
    obtain ⟨ad362, A362_12, c362_12, A362_13, c362_13, e362, hx362_0, hx362_1, hx362_2, hx362_3, hx362_4, hx362_5, hx362_6, hx362_7, hx362_8, hx362_9, hx362_10, hx362_11, hx362_12, hx362_13, hl362_12, hi362_12, hl362_13, hi362_13⟩ := at_T40 HR0_1.out x4_1 p362 q362
    cases e362
    replace hx362_0 := cm_ HB.out hx362_0
    replace hx362_1 := cm_ HB.out hx362_1
    replace hx362_2 := cm_ HB.out hx362_2
    replace hx362_3 := cm_ HB.out hx362_3
    replace hx362_4 := cm_ HB.out hx362_4
    replace hx362_5 := cm_ HB.out hx362_5
    replace hx362_6 := cm_ HB.out hx362_6
    replace hx362_7 := cm_ HB.out hx362_7
    replace hx362_8 := cm_ HB.out hx362_8
    replace hx362_9 := cm_ HB.out hx362_9
    replace hx362_10 := cm_ HB.out hx362_10
    replace hx362_11 := cm_ HB.out hx362_11
    replace hx362_12 := cm_ HB.out hx362_12
    replace hx362_13 := cm_ HB.out hx362_13
    have HR362_12 := am_ hi362_12
    have HC362_12 := am_ hl362_12
    clear hi362_12 hl362_12
    have HR362_13 := am_ hi362_13
    have HC362_13 := am_ hl362_13
    clear hi362_13 hl362_13
    replace p362 := eq_true p362
    replace q362 := eq_true q362
    have p363 : 0 ≤ (x4_1 : Int) := of_decide_eq_true as_
    have q363 : x4_1 < (l0_1.length : Int) := of_decide_eq_true as_
    obtain ⟨ad363, A363_12, c363_12, A363_13, c363_13, e363, hx363_0, hx363_1, hx363_2, hx363_3, hx363_4, hx363_5, hx363_6, hx363_7, hx363_8, hx363_9, hx363_10, hx363_11, hx363_12, hx363_13, hl363_12, hi363_12, hl363_13, hi363_13⟩ := at_T40 HR0_1.out x4_1 p363 q363
    obtain rfl : ad362 = ad363 := (by injection e363)
    replace hx363_0 := cm_ HB.out hx363_0
    replace hx363_1 := cm_ HB.out hx363_1
    replace hx363_2 := cm_ HB.out hx363_2
    replace hx363_3 := cm_ HB.out hx363_3
    replace hx363_4 := cm_ HB.out hx363_4
    replace hx363_5 := cm_ HB.out hx363_5
    replace hx363_6 := cm_ HB.out hx363_6
    replace hx363_7 := cm_ HB.out hx363_7
    replace hx363_8 := cm_ HB.out hx363_8
    replace hx363_9 := cm_ HB.out hx363_9
    replace hx363_10 := cm_ HB.out hx363_10
    replace hx363_11 := cm_ HB.out hx363_11
    replace hx363_12 := cm_ HB.out hx363_12
    replace hx363_13 := cm_ HB.out hx363_13
    have HR363_12 := am_ hi363_12
    have HC363_12 := am_ hl363_12
    clear hi363_12 hl363_12
    have HR363_13 := am_ hi363_13
    have HC363_13 := am_ hl363_13
    clear hi363_13 hl363_13
    replace p363 := eq_true p363
    replace q363 := eq_true q363
    have ea_ := Option.some.inj (hx362_12.symm.trans hx363_12)
    injection ea_ with ea_ en_ ec_
    subst ea_
    subst ec_
    clear en_
    have ea_ := Option.some.inj (hx362_13.symm.trans hx363_13)
    injection ea_ with ea_ en_ ec_
    subst ea_
    subst ec_
    clear en_
    go_wp2
    repeat (go_quiet (fail); try go_wp2)
    go_ret
    exact rt_
   rw [if_neg c11] at H
   have c11b0 : decide (100 < (((rd_T40 l0_1 x4_1).f9).length : Int)) = false := decide_eq_false c11
   have c11b1 : decide (100 < ((rd_T40 l0_1 x4_1).f9).length) = false := decide_eq_false (by omega)
   clear c11
   have H' := am_ H
   clear H
   obtain ⟨hcz13_0, hcz13_1⟩ := cz2_ BK361.out
   obtain ⟨hfz13_0, hfz13_1⟩ := fz2_ BK361.out
   have p362 : 0 ≤ (x4_1 : Int) := of_decide_eq_true as_
   have q362 : x4_1 < (l0_1.length : Int) := of_decide_eq_true as_
   obtain ⟨ad362, A362_12, c362_12, A362_13, c362_13, e362, hx362_0, hx362_1, hx362_2, hx362_3, hx362_4, hx362_5, hx362_6, hx362_7, hx362_8, hx362_9, hx362_10, hx362_11, hx362_12, hx362_13, hl362_12, hi362_12, hl362_13, hi362_13⟩ := at_T40 HR0_1.out x4_1 p362 q362
   cases e362
   replace hx362_0 := cm_ HB.out hx362_0
   replace hx362_1 := cm_ HB.out hx362_1
   replace hx362_2 := cm_ HB.out hx362_2
   replace hx362_3 := cm_ HB.out hx362_3
   replace hx362_4 := cm_ HB.out hx362_4
   replace hx362_5 := cm_ HB.out hx362_5
   replace hx362_6 := cm_ HB.out hx362_6
   replace hx362_7 := cm_ HB.out hx362_7
   replace hx362_8 := cm_ HB.out hx362_8
   replace hx362_9 := cm_ HB.out hx362_9
   replace hx362_10 := cm_ HB.out hx362_10
   replace hx362_11 := cm_ HB.out hx362_11
   replace hx362_12 := cm_ HB.out hx362_12
   replace hx362_13 := cm_ HB.out hx362_13
   have HR362_12 := am_ hi362_12
   have HC362_12 := am_ hl362_12
   clear hi362_12 hl362_12
   have HR362_13 := am_ hi362_13
   have HC362_13 := am_ hl362_13
   clear hi362_13 hl362_13
   replace p362 := eq_true p362
   replace q362 := eq_true q362
   have p363 : 0 ≤ (x4_1 : Int) := of_decide_eq_true as_
   have q363 : x4_1 < (l0_1.length : Int) := of_decide_eq_true as_
   obtain ⟨ad363, A363_12, c363_12, A363_13, c363_13, e363, hx363_0, hx363_1, hx363_2, hx363_3, hx363_4, hx363_5, hx363_6, hx363_7, hx363_8, hx363_9, hx363_10, hx363_11, hx363_12, hx363_13, hl363_12, hi363_12, hl363_13, hi363_13⟩ := at_T40 HR0_1.out x4_1 p363 q363
   obtain rfl : ad362 = ad363 := (by injection e363)
   replace hx363_0 := cm_ HB.out hx363_0
   replace hx363_1 := cm_ HB.out hx363_1
   replace hx363_2 := cm_ HB.out hx363_2
   replace hx363_3 := cm_ HB.out hx363_3
   replace hx363_4 := cm_ HB.out hx363_4
   replace hx363_5 := cm_ HB.out hx363_5
   replace hx363_6 := cm_ HB.out hx363_6
   replace hx363_7 := cm_ HB.out hx363_7
   replace hx363_8 := cm_ HB.out hx363_8
   replace hx363_9 := cm_ HB.out hx363_9
   replace hx363_10 := cm_ HB.out hx363_10
   replace hx363_11 := cm_ HB.out hx363_11
   replace hx363_12 := cm_ HB.out hx363_12
   replace hx363_13 := cm_ HB.out hx363_13
   have HR363_12 := am_ hi363_12
   have HC363_12 := am_ hl363_12
   clear hi363_12 hl363_12
   have HR363_13 := am_ hi363_13
   have HC363_13 := am_ hl363_13
   clear hi363_13 hl363_13
   replace p363 := eq_true p363
   replace q363 := eq_true q363
   have ea_ := Option.some.inj (hx362_12.symm.trans hx363_12)
   injection ea_ with ea_ en_ ec_
   subst ea_
   subst ec_
   clear en_
   have ea_ := Option.some.inj (hx362_13.symm.trans hx363_13)
   injection ea_ with ea_ en_ ec_
   subst ea_
   subst ec_
   clear en_
   have p364 : 0 ≤ (x4_1 : Int) := of_decide_eq_true as_
   have q364 : x4_1 < (l0_1.length : Int) := of_decide_eq_true as_
   obtain ⟨ad364, A364_12, c364_12, A364_13, c364_13, e364, hx364_0, hx364_1, hx364_2, hx364_3, hx364_4, hx364_5, hx364_6, hx364_7, hx364_8, hx364_9, hx364_10, hx364_11, hx364_12, hx364_13, hl364_12, hi364_12, hl364_13, hi364_13⟩ := at_T40 HR0_1.out x4_1 p364 q364
   obtain rfl : ad362 = ad364 := (by injection e364)
   replace hx364_0 := cm_ HB.out hx364_0
   replace hx364_1 := cm_ HB.out hx364_1
   replace hx364_2 := cm_ HB.out hx364_2
   replace hx364_3 := cm_ HB.out hx364_3
   replace hx364_4 := cm_ HB.out hx364_4
   replace hx364_5 := cm_ HB.out hx364_5
   replace hx364_6 := cm_ HB.out hx364_6
   replace hx364_7 := cm_ HB.out hx364_7
   replace hx364_8 := cm_ HB.out hx364_8
   replace hx364_9 := cm_ HB.out hx364_9
   replace hx364_10 := cm_ HB.out hx364_10
   replace hx364_11 := cm_ HB.out hx364_11
   replace hx364_12 := cm_ HB.out hx364_12
   replace hx364_13 := cm_ HB.out hx364_13
   have HR364_12 := am_ hi364_12
   have HC364_12 := am_ hl364_12
   clear hi364_12 hl364_12
   have HR364_13 := am_ hi364_13
   have HC364_13 := am_ hl364_13
   clear hi364_13 hl364_13
   replace p364 := eq_true p364
   replace q364 := eq_true q364
   have ea_ := Option.some.inj (hx362_12.symm.trans hx364_12)
   injection ea_ with ea_ en_ ec_
   subst ea_
   subst ec_
   clear en_
   have ea_ := Option.some.inj (hx362_13.symm.trans hx364_13)
   injection ea_ with ea_ en_ ec_
   subst ea_
   subst ec_
   clear en_
   have p365 : 0 ≤ (x4_1 : Int) := of_decide_eq_true as_
   have q365 : x4_1 < (l0_1.length : Int) := of_decide_eq_true as_
   obtain ⟨ad365, A365_12, c365_12, A365_13, c365_13, e365, hx365_0, hx365_1, hx365_2, hx365_3, hx365_4, hx365_5, hx365_6, hx365_7, hx365_8, hx365_9, hx365_10, hx365_11, hx365_12, hx365_13, hl365_12, hi365_12, hl365_13, hi365_13⟩ := at_T40 HR0_1.out x4_1 p365 q365
   obtain rfl : ad362 = ad365 := (by injection e365)
   replace hx365_0 := cm_ HB.out hx365_0
   replace hx365_1 := cm_ HB.out hx365_1
   replace hx365_2 := cm_ HB.out hx365_2
   replace hx365_3 := cm_ HB.out hx365_3
   replace hx365_4 := cm_ HB.out hx365_4
   replace hx365_5 := cm_ HB.out hx365_5
   replace hx365_6 := cm_ HB.out hx365_6
   replace hx365_7 := cm_ HB.out hx365_7
   replace hx365_8 := cm_ HB.out hx365_8
   replace hx365_9 := cm_ HB.out hx365_9
   replace hx365_10 := cm_ HB.out hx365_10
   replace hx365_11 := cm_ HB.out hx365_11
   replace hx365_12 := cm_ HB.out hx365_12
   replace hx365_13 := cm_ HB.out hx365_13
   have HR365_12 := am_ hi365_12
   have HC365_12 := am_ hl365_12
   clear hi365_12 hl365_12
   have HR365_13 := am_ hi365_13
   have HC365_13 := am_ hl365_13
   clear hi365_13 hl365_13
   replace p365 := eq_true p365
   replace q365 := eq_true q365
   have ea_ := Option.some.inj (hx362_12.symm.trans hx365_12)
   injection ea_ with ea_ en_ ec_
   subst ea_
   subst ec_
   clear en_
   have ea_ := Option.some.inj (hx362_13.symm.trans hx365_13)
   injection ea_ with ea_ en_ ec_
   subst ea_
   subst ec_
   clear en_
   go_wp2
   repeat (go_quiet (fail); try go_wp2)
   go_roundg k1
   case measure => have := HK1.out; omega
   case rel => exact ⟨(wrap64 ((wrap64 (x3_1 + (((rd_T40 l0_1 x4_1).f8).length : Int))) + (((rd_T40 l0_1 x4_1).f9).length : Int))), (wrap64 (x4_1 + 1)), rs_, rs_, H', ⟨by have := HK1.out; omega⟩, ⟨bk_ BK361.out⟩, ⟨bh_⟩⟩
def computusref26_In.f (a0 : Int) : Option (Bool) := if a0 ≥ (-9999999999) then (some (decide (a0 ≤ 9999999999))) else (some false)
theorem computusref26_In.calls (a0 : Int) (r : Bool) (w : World) (h : computusref26_In.f a0 = some r) :
  Calls Tryd.prog 30 #[.int .i64 a0] w fun e w' => e = .returned (.bool r) ∧ Drawn0 w w' := by
 have H := h
 clear h
 unfold computusref26_In.f at H
 by_cases c2 : a0 ≥ (-9999999999)
 ·rw [if_pos c2] at H
  have c2b0 : decide ((-9999999999) ≤ a0) = true := decide_eq_true c2
  clear c2
  obtain rfl := Option.some.inj H
  go_enter Tryd.func30, Tryd.ntmps30
  go_wp2
  go_ret
  exact ⟨by first | rfl | (simp; done) | (simp [*]; done), by repeat (first | exact Drawn0.refl _ | apply Drawn0.step)⟩
 rw [if_neg c2] at H
 have c2b0 : decide ((-9999999999) ≤ a0) = false := decide_eq_false c2
 clear c2
 obtain rfl := Option.some.inj H
 go_enter Tryd.func30, Tryd.ntmps30
 go_wp2
 go_ret
 exact ⟨by first | rfl | (simp; done) | (simp [*]; done), by repeat (first | exact Drawn0.refl _ | apply Drawn0.step)⟩
mutual
def computusref17_Identifier.j0 : Nat → ByteArray → Bool → Option (Bool)
 | 0, _, _ => none
 | k + 1, x0, x12 => if x12 = true then (some false) else (computusref17_Identifier.l0 k x0 0)
def computusref17_Identifier.l0 : Nat → ByteArray → Int → Option (Bool)
 | 0, _, _ => none
 | k + 1, x0, x3 => if x3 < (x0.size : Int) then (if 0 ≤ x3 then (if (bt x0 x3) ≥ 97 then (computusref17_Identifier.j2 k x0 x3 (bt x0 x3) (decide ((bt x0 x3) ≤ 122))) else (computusref17_Identifier.j2 k x0 x3 (bt x0 x3) false)) else (none)) else (some true)
def computusref17_Identifier.j2 : Nat → ByteArray → Int → Int → Bool → Option (Bool)
 | 0, _, _, _, _ => none
 | k + 1, x0, x3, x4, x27 => if x27 = true then (computusref17_Identifier.l0 k x0 (wrap64 (x3 + 1))) else (if x4 ≥ 48 then (if x4 ≤ 57 then (computusref17_Identifier.j3 k x0 x3 x4 (decide (x3 > 0))) else (computusref17_Identifier.j3 k x0 x3 x4 false)) else (computusref17_Identifier.j3 k x0 x3 x4 false))
def computusref17_Identifier.j3 : Nat → ByteArray → Int → Int → Bool → Option (Bool)
 | 0, _, _, _, _ => none
 | k + 1, x0, x3, x4, x37 => if x37 = true then (computusref17_Identifier.l0 k x0 (wrap64 (x3 + 1))) else (if x4 = 45 then (if x3 = 0 then (some false) else (if x3 = (wrap64 ((x0.size : Int) - 1)) then (some false) else (if 0 ≤ (wrap64 (x3 - 1)) then (if (wrap64 (x3 - 1)) < (x0.size : Int) then (if (bt x0 (wrap64 (x3 - 1))) = 45 then (some false) else (computusref17_Identifier.l0 k x0 (wrap64 (x3 + 1)))) else (none)) else (none)))) else (some false))
end
def computusref17_Identifier.f (k : Nat) (a0 : ByteArray) : Option (Bool) := if (a0.size : Int) < 1 then (computusref17_Identifier.j0 k a0 true) else (computusref17_Identifier.j0 k a0 (decide ((a0.size : Int) > 40)))
theorem computusref17_Identifier.calls (k : Nat) (a0 : ByteArray) (r : Bool) (w : World) (h : computusref17_Identifier.f k a0 = some r) :
  Calls Tryd.prog 31 #[.string a0] w fun e w' => e = .returned (.bool r) ∧ Drawn0 w w' := by
 have H := h
 clear h
 unfold computusref17_Identifier.f at H
 have HC2 := am_ H
 clear H
 go_enter Tryd.func31, Tryd.ntmps31
 go_upto_region 1 with (fail)
 go_cut [12] (fun v12 wc => ∃ (kq : Nat) (x12_1 : Bool), v12 = .bool x12_1 ∧ Aside0 (computusref17_Identifier.j0 kq a0 x12_1 = some r) ∧ Aside0 (kq ≤ k) ∧ Drawn0 w wc)
 case first =>
  have H := HC2.out
  clear HC2
  by_cases c3 : (a0.size : Int) < 1
  ·rw [if_pos c3] at H
   have c3b0 : decide ((a0.size : Int) < 1) = true := decide_eq_true c3
   have c3b1 : decide (a0.size < 1) = true := decide_eq_true (by omega)
   clear c3
   (first | rw [c3b0] | (simp only [i64_w, i32_w]; rw [c3b0]) | skip)
   have H' := am_ H
   clear H
   go_wp2
   go_meet
   case rel => exact ⟨_, (true), rs_, H', ⟨by first | omega | exact Nat.le_refl _⟩, by repeat (first | exact Drawn0.refl _ | apply Drawn0.step)⟩
  rw [if_neg c3] at H
  have c3b0 : decide ((a0.size : Int) < 1) = false := decide_eq_false c3
  have c3b1 : decide (a0.size < 1) = false := decide_eq_false (by omega)
  clear c3
  (first | rw [c3b0] | (simp only [i64_w, i32_w]; rw [c3b0]) | skip)
  have H' := am_ H
  clear H
  go_wp2
  go_meet
  case rel => exact ⟨_, (decide ((a0.size : Int) > 40)), rs_, H', ⟨by first | omega | exact Nat.le_refl _⟩, by repeat (first | exact Drawn0.refl _ | apply Drawn0.step)⟩
 case rest =>
  clear HC2
  obtain ⟨kq, x12_1, rfl, HA, HJ1, ⟨mc1, rfl⟩⟩ := hcut
  cases kq with
  | zero => exact absurd HA.out (by simp [computusref17_Identifier.j0])
  | succ kj1 =>
   have H := HA.out
   clear HA
   simp only [computusref17_Identifier.j0] at H
   by_cases c4 : x12_1 = true
   ·subst c4
    replace H := it_ H
    obtain rfl := Option.some.inj H
    go_wp2
    go_ret
    exact ⟨by first | rfl | (simp; done) | (simp [*]; done), by repeat (first | exact Drawn0.refl _ | apply Drawn0.step)⟩
   replace c4 := Bool.eq_false_iff.mpr c4
   subst c4
   replace H := if_ H
   have H' := am_ H
   clear H
   go_wp2
   go_loopg [3] kj1 (fun kq v3 w' => ∃ (x3_2 : Int), v3 = .int .i64 x3_2 ∧ Aside0 (computusref17_Identifier.l0 kq a0 x3_2 = some r) ∧ Aside0 (kq ≤ kj1) ∧ Drawn0 w w')
   case atStart => exact ⟨(0), rs_, H', ⟨Nat.le_refl _⟩, by repeat (first | exact Drawn0.refl _ | apply Drawn0.step)⟩
   case round =>
    clear H'
    obtain ⟨x3_2, rfl, HA, HK2, ⟨m2, rfl⟩⟩ := hrel
    cases gk with
    | zero => exact absurd HA.out (by simp [computusref17_Identifier.l0])
    | succ k2 =>
     have H := HA.out
     clear HA
     simp only [computusref17_Identifier.l0] at H
     by_cases c5 : x3_2 < (a0.size : Int)
     rotate_left
     ·rw [if_neg c5] at H
      have c5b0 : decide (x3_2 < (a0.size : Int)) = false := decide_eq_false c5
      clear c5
      obtain rfl := Option.some.inj H
      go_wp2
      go_ret
      exact ⟨by first | rfl | (simp; done) | (simp [*]; done), by repeat (first | exact Drawn0.refl _ | apply Drawn0.step)⟩
     rw [if_pos c5] at H
     have c5b0 : decide (x3_2 < (a0.size : Int)) = true := decide_eq_true c5
     clear c5
     by_cases c6 : 0 ≤ x3_2
     rotate_left
     ·rw [if_neg c6] at H
      exact absurd H (by simp)
     rw [if_pos c6] at H
     have c6b0 : decide (0 ≤ x3_2) = true := decide_eq_true c6
     clear c6
     have HC8 := am_ H
     clear H
     have p7 : 0 ≤ (x3_2 : Int) := of_decide_eq_true as_
     have q7 : x3_2 < (a0.size : Int) := of_decide_eq_true as_
     have hx7 := bt_at a0 x3_2
     replace p7 := eq_true p7
     replace q7 := eq_true q7
     go_upto_region 7 with (fail)
     go_cut [27] (fun v27 wc => ∃ (kq : Nat) (x27_7 : Bool), v27 = .bool x27_7 ∧ Aside0 (computusref17_Identifier.j2 kq a0 x3_2 (bt a0 x3_2) x27_7 = some r) ∧ Aside0 (kq ≤ k2) ∧ Drawn0 w wc)
     case first =>
      have H := HC8.out
      clear HC8
      by_cases c9 : (bt a0 x3_2) ≥ 97
      rotate_left
      ·rw [if_neg c9] at H
       have c9b0 : decide (97 ≤ (bt a0 x3_2)) = false := decide_eq_false c9
       clear c9
       (first | rw [c9b0] | (simp only [i64_w, i32_w]; rw [c9b0]) | skip)
       have H' := am_ H
       clear H
       go_wp2
       go_meet
       case rel => exact ⟨_, (false), rs_, H', ⟨by have := HJ1.out; have := HK2.out; first | omega | exact Nat.le_refl _⟩, by repeat (first | exact Drawn0.refl _ | apply Drawn0.step)⟩
      rw [if_pos c9] at H
      have c9b0 : decide (97 ≤ (bt a0 x3_2)) = true := decide_eq_true c9
      clear c9
      (first | rw [c9b0] | (simp only [i64_w, i32_w]; rw [c9b0]) | skip)
      have H' := am_ H
      clear H
      go_wp2
      go_meet
      case rel => exact ⟨_, (decide ((bt a0 x3_2) ≤ 122)), rs_, H', ⟨by have := HJ1.out; have := HK2.out; first | omega | exact Nat.le_refl _⟩, by repeat (first | exact Drawn0.refl _ | apply Drawn0.step)⟩
     case rest =>
      clear HC8
      obtain ⟨kq, x27_7, rfl, HA, HJ7, ⟨mc7, rfl⟩⟩ := hcut
      cases kq with
      | zero => exact absurd HA.out (by simp [computusref17_Identifier.j2])
      | succ kj7 =>
       have H := HA.out
       clear HA
       simp only [computusref17_Identifier.j2] at H
       by_cases c10 : x27_7 = true
       ·subst c10
        replace H := it_ H
        have H' := am_ H
        clear H
        go_wp2
        go_roundg kj7
        case measure => have := HJ1.out; have := HK2.out; have := HJ7.out; omega
        case rel => exact ⟨(wrap64 (x3_2 + 1)), rs_, H', ⟨by have := HJ1.out; have := HK2.out; have := HJ7.out; omega⟩, by repeat (first | exact Drawn0.refl _ | apply Drawn0.step)⟩
       replace c10 := Bool.eq_false_iff.mpr c10
       subst c10
       replace H := if_ H
       have HC11 := am_ H
       clear H
       go_upto_region 8 with (fail)
       go_cut [37] (fun v37 wc => ∃ (kq : Nat) (x37_10 : Bool), v37 = .bool x37_10 ∧ Aside0 (computusref17_Identifier.j3 kq a0 x3_2 (bt a0 x3_2) x37_10 = some r) ∧ Aside0 (kq ≤ kj7) ∧ Drawn0 w wc)
       case first =>
        have H := HC11.out
        clear HC11
        by_cases c12 : (bt a0 x3_2) ≥ 48
        rotate_left
        ·rw [if_neg c12] at H
         have c12b0 : decide (48 ≤ (bt a0 x3_2)) = false := decide_eq_false c12
         clear c12
         (first | rw [c12b0] | (simp only [i64_w, i32_w]; rw [c12b0]) | skip)
         have H' := am_ H
         clear H
         go_wp2
         go_meet
         case rel => exact ⟨_, (false), rs_, H', ⟨by have := HJ1.out; have := HK2.out; have := HJ7.out; first | omega | exact Nat.le_refl _⟩, by repeat (first | exact Drawn0.refl _ | apply Drawn0.step)⟩
        rw [if_pos c12] at H
        have c12b0 : decide (48 ≤ (bt a0 x3_2)) = true := decide_eq_true c12
        clear c12
        (first | rw [c12b0] | (simp only [i64_w, i32_w]; rw [c12b0]) | skip)
        by_cases c13 : (bt a0 x3_2) ≤ 57
        rotate_left
        ·rw [if_neg c13] at H
         have c13b0 : decide ((bt a0 x3_2) ≤ 57) = false := decide_eq_false c13
         clear c13
         have H' := am_ H
         clear H
         go_wp2
         go_meet
         case rel => exact ⟨_, (false), rs_, H', ⟨by have := HJ1.out; have := HK2.out; have := HJ7.out; first | omega | exact Nat.le_refl _⟩, by repeat (first | exact Drawn0.refl _ | apply Drawn0.step)⟩
        rw [if_pos c13] at H
        have c13b0 : decide ((bt a0 x3_2) ≤ 57) = true := decide_eq_true c13
        clear c13
        have H' := am_ H
        clear H
        go_wp2
        go_meet
        case rel => exact ⟨_, (decide (x3_2 > 0)), rs_, H', ⟨by have := HJ1.out; have := HK2.out; have := HJ7.out; first | omega | exact Nat.le_refl _⟩, by repeat (first | exact Drawn0.refl _ | apply Drawn0.step)⟩
       case rest =>
        clear HC11
        obtain ⟨kq, x37_10, rfl, HA, HJ10, ⟨mc10, rfl⟩⟩ := hcut
        cases kq with
        | zero => exact absurd HA.out (by simp [computusref17_Identifier.j3])
        | succ kj10 =>
         have H := HA.out
         clear HA
         simp only [computusref17_Identifier.j3] at H
         by_cases c14 : x37_10 = true
         ·subst c14
          replace H := it_ H
          have H' := am_ H
          clear H
          go_wp2
          go_roundg kj10
          case measure => have := HJ1.out; have := HK2.out; have := HJ7.out; have := HJ10.out; omega
          case rel => exact ⟨(wrap64 (x3_2 + 1)), rs_, H', ⟨by have := HJ1.out; have := HK2.out; have := HJ7.out; have := HJ10.out; omega⟩, by repeat (first | exact Drawn0.refl _ | apply Drawn0.step)⟩
         replace c14 := Bool.eq_false_iff.mpr c14
         subst c14
         replace H := if_ H
         by_cases c15 : (bt a0 x3_2) = 45
         rotate_left
         ·rw [if_neg c15] at H
          have c15b0 : ((bt a0 x3_2) == 45) = false := beq_eq_false_iff_ne.mpr c15
          have c15b1 : ((bt a0 x3_2) != 45) = true := bne_iff_ne.mpr c15
          obtain rfl := Option.some.inj H
          go_wp2
          go_ret
          exact ⟨by first | rfl | (simp; done) | (simp [*]; done), by repeat (first | exact Drawn0.refl _ | apply Drawn0.step)⟩
         rw [if_pos c15] at H
         have c15b0 : ((bt a0 x3_2) == 45) = true := beq_iff_eq.mpr c15
         have c15b1 : ((bt a0 x3_2) != 45) = false := bne_eq_false_iff_eq.mpr c15
         clear c15
         by_cases c16 : x3_2 = 0
         ·rw [if_pos c16] at H
          have c16b0 : (x3_2 == 0) = true := beq_iff_eq.mpr c16
          have c16b1 : (x3_2 != 0) = false := bne_eq_false_iff_eq.mpr c16
          clear c16
          obtain rfl := Option.some.inj H
          go_wp2
          go_ret
          exact ⟨by first | rfl | (simp; done) | (simp [*]; done), by repeat (first | exact Drawn0.refl _ | apply Drawn0.step)⟩
         rw [if_neg c16] at H
         have c16b0 : (x3_2 == 0) = false := beq_eq_false_iff_ne.mpr c16
         have c16b1 : (x3_2 != 0) = true := bne_iff_ne.mpr c16
         by_cases c17 : x3_2 = (wrap64 ((a0.size : Int) - 1))
         ·rw [if_pos c17] at H
          have c17b0 : (x3_2 == (wrap64 ((a0.size : Int) - 1))) = true := beq_iff_eq.mpr c17
          have c17b1 : (x3_2 != (wrap64 ((a0.size : Int) - 1))) = false := bne_eq_false_iff_eq.mpr c17
          clear c17
          obtain rfl := Option.some.inj H
          go_wp2
          go_ret
          exact ⟨by first | rfl | (simp; done) | (simp [*]; done), by repeat (first | exact Drawn0.refl _ | apply Drawn0.step)⟩
         rw [if_neg c17] at H
         have c17b0 : (x3_2 == (wrap64 ((a0.size : Int) - 1))) = false := beq_eq_false_iff_ne.mpr c17
         have c17b1 : (x3_2 != (wrap64 ((a0.size : Int) - 1))) = true := bne_iff_ne.mpr c17
         obtain ⟨ji18, hji18⟩ : ∃ j_ : Int, (wrap64 (x3_2 - 1)) = j_ := ⟨_, rfl⟩
         replace H : (if 0 ≤ (ji18) then (if (ji18) < (a0.size : Int) then (if (bt a0 (ji18)) = 45 then (some false) else (computusref17_Identifier.l0 kj10 a0 (wrap64 (x3_2 + 1)))) else (none)) else (none)) = some r := by first | (rw [hji18] at H; exact H) | (simp only [hji18] at H ⊢; exact H)
         have hji18w : (IntKind.i64.wrap (x3_2 - 1)) = ji18 := (i64_w _).trans hji18
         by_cases c19 : 0 ≤ (ji18)
         rotate_left
         ·rw [if_neg c19] at H
          exact absurd H (by simp)
         rw [if_pos c19] at H
         have c19b0 : decide (0 ≤ (ji18)) = true := decide_eq_true c19
         clear c19
         by_cases c20 : (ji18) < (a0.size : Int)
         rotate_left
         ·rw [if_neg c20] at H
          exact absurd H (by simp)
         rw [if_pos c20] at H
         have c20b0 : decide ((ji18) < (a0.size : Int)) = true := decide_eq_true c20
         clear c20
         by_cases c22 : (bt a0 (ji18)) = 45
         ·rw [if_pos c22] at H
          have c22b0 : ((bt a0 (ji18)) == 45) = true := beq_iff_eq.mpr c22
          have c22b1 : ((bt a0 (ji18)) != 45) = false := bne_eq_false_iff_eq.mpr c22
          clear c22
          obtain rfl := Option.some.inj H
          have p21 : 0 ≤ ((ji18) : Int) := of_decide_eq_true as_
          have q21 : (ji18) < (a0.size : Int) := of_decide_eq_true as_
          have hx21 := bt_at a0 (ji18)
          replace p21 := eq_true p21
          replace q21 := eq_true q21
          go_wp2
          go_ret
          exact ⟨by first | rfl | (simp; done) | (simp only [← hji18] <;> (first | rfl | simp)) | (simp [*]; done), by repeat (first | exact Drawn0.refl _ | apply Drawn0.step)⟩
         rw [if_neg c22] at H
         have c22b0 : ((bt a0 (ji18)) == 45) = false := beq_eq_false_iff_ne.mpr c22
         have c22b1 : ((bt a0 (ji18)) != 45) = true := bne_iff_ne.mpr c22
         have H' := am_ H
         clear H
         have p21 : 0 ≤ ((ji18) : Int) := of_decide_eq_true as_
         have q21 : (ji18) < (a0.size : Int) := of_decide_eq_true as_
         have hx21 := bt_at a0 (ji18)
         replace p21 := eq_true p21
         replace q21 := eq_true q21
         go_wp2
         go_roundg kj10
         case measure => have := HJ1.out; have := HK2.out; have := HJ7.out; have := HJ10.out; omega
         case rel => exact ⟨(wrap64 (x3_2 + 1)), rs_, H', ⟨by have := HJ1.out; have := HK2.out; have := HJ7.out; have := HJ10.out; omega⟩, by repeat (first | exact Drawn0.refl _ | apply Drawn0.step)⟩
def computusref27_identifiers.l0 : Nat → List ByteArray → Int → Option (Bool)
 | 0, _, _ => none
 | k + 1, x0, x3 => if x3 < (x0.length : Int) then (if 0 ≤ x3 then ((computusref17_Identifier.f k (rdOf ByteArray.empty x0 x3)).bind fun t367 => (if t367 = true then (computusref27_identifiers.l0 k x0 (wrap64 (x3 + 1))) else (some false))) else (none)) else (some true)
def computusref27_identifiers.f (k : Nat) (l0 : List ByteArray) : Option (Bool) := computusref27_identifiers.l0 k l0 0
theorem computusref27_identifiers.calls (k : Nat) (A0 : Option Addr) (c0 : Nat) (l0 : List ByteArray) (r : Bool) (w : World) (hr0 : Kd.C Kd.string w A0 l0.length l0) (hc0 : l0.length ≤ c0) (h : computusref27_identifiers.f k l0 = some r) :
  Calls Tryd.prog 32 #[.slice A0 l0.length c0] w fun e w' => e = .returned (.bool r) ∧ Drawn0 w w' := by
 have HR0 := am_ hr0
 have HC0 := am_ hc0
 clear hr0 hc0
 have H := h
 clear h
 unfold computusref27_identifiers.f at H
 have H' := am_ H
 clear H
 go_enter Tryd.func32, Tryd.ntmps32
 go_wp2
 go_loopg [3] k (fun kq v3 w' => ∃ (x3_1 : Int), v3 = .int .i64 x3_1 ∧ Aside0 (computusref27_identifiers.l0 kq l0 x3_1 = some r) ∧ Aside0 (kq ≤ k) ∧ Drawn0 w w')
 case atStart => exact ⟨(0), rs_, H', ⟨Nat.le_refl _⟩, by repeat (first | exact Drawn0.refl _ | apply Drawn0.step)⟩
 case round =>
  clear H'
  obtain ⟨x3_1, rfl, HA, HK1, ⟨m1, rfl⟩⟩ := hrel
  cases gk with
  | zero => exact absurd HA.out (by simp [computusref27_identifiers.l0])
  | succ k1 =>
   have H := HA.out
   clear HA
   simp only [computusref27_identifiers.l0] at H
   by_cases c2 : x3_1 < (l0.length : Int)
   rotate_left
   ·rw [if_neg c2] at H
    have c2b0 : decide (x3_1 < (l0.length : Int)) = false := decide_eq_false c2
    clear c2
    obtain rfl := Option.some.inj H
    go_wp2
    go_ret
    exact ⟨by first | rfl | (simp; done) | (simp [*]; done), by repeat (first | exact Drawn0.refl _ | apply Drawn0.step)⟩
   rw [if_pos c2] at H
   have c2b0 : decide (x3_1 < (l0.length : Int)) = true := decide_eq_true c2
   clear c2
   by_cases c3 : 0 ≤ x3_1
   rotate_left
   ·rw [if_neg c3] at H
    exact absurd H (by simp)
   rw [if_pos c3] at H
   have c3b0 : decide (0 ≤ x3_1) = true := decide_eq_true c3
   clear c3
   obtain ⟨t367, A4, H⟩ := bs_ H
   by_cases c5 : t367 = true
   rotate_left
   ·replace c5 := Bool.eq_false_iff.mpr c5
    subst c5
    replace H := if_ H
    obtain rfl := Option.some.inj H
    have p366 : 0 ≤ (x3_1 : Int) := of_decide_eq_true as_
    have q366 : x3_1 < (l0.length : Int) := of_decide_eq_true as_
    obtain ⟨ad366, e366, hx366_0⟩ := Kd.at_string HR0.out x3_1 p366 q366
    cases e366
    replace p366 := eq_true p366
    replace q366 := eq_true q366
    go_wp2_with (first | ((with_reducible refine gate_callee (f := 31) rfl ?_); refine goesL_ (some 14) rfl rfl Tryd.func31 (by kernel_rfl) rfl #[.string (rdOf ByteArray.empty l0 x3_1)] rfl (by (try simp only [List.map_toArray, List.map_cons, List.map_nil]); first | done | rfl | (simp only [List.length_drop, List.length_take]; rfl)) ?_; (with_reducible refine (computusref17_Identifier.calls k1 (rdOf ByteArray.empty l0 x3_1) false _ A4.out).mono ?_); rintro e w' ⟨rfl, ⟨nd, rfl⟩⟩; refine ⟨_, rfl, ?_⟩))
    go_ret
    exact ⟨by first | rfl | (simp; done) | (simp [*]; done), by repeat (first | exact Drawn0.refl _ | apply Drawn0.step)⟩
   subst c5
   replace H := it_ H
   have H' := am_ H
   clear H
   have p366 : 0 ≤ (x3_1 : Int) := of_decide_eq_true as_
   have q366 : x3_1 < (l0.length : Int) := of_decide_eq_true as_
   obtain ⟨ad366, e366, hx366_0⟩ := Kd.at_string HR0.out x3_1 p366 q366
   cases e366
   replace p366 := eq_true p366
   replace q366 := eq_true q366
   go_wp2_with (first | ((with_reducible refine gate_callee (f := 31) rfl ?_); refine goesL_ (some 14) rfl rfl Tryd.func31 (by kernel_rfl) rfl #[.string (rdOf ByteArray.empty l0 x3_1)] rfl (by (try simp only [List.map_toArray, List.map_cons, List.map_nil]); first | done | rfl | (simp only [List.length_drop, List.length_take]; rfl)) ?_; (with_reducible refine (computusref17_Identifier.calls k1 (rdOf ByteArray.empty l0 x3_1) true _ A4.out).mono ?_); rintro e w' ⟨rfl, ⟨nd, rfl⟩⟩; refine ⟨_, rfl, ?_⟩))
   go_roundg k1
   case measure => have := HK1.out; omega
   case rel => exact ⟨(wrap64 (x3_1 + 1)), rs_, H', ⟨by have := HK1.out; omega⟩, by repeat (first | exact Drawn0.refl _ | apply Drawn0.step)⟩
end Go.Proofs.YtlchefonlfokgaaDoor.Q
end
