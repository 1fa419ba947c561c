/- What is proved: what the statement CattextOffsetsSaid needs, part 2 of 11; the last part proves the statement. No condition. -/
import Derived.Test.YtlfokdbnbmebiaaDoorZCOs0
import Derived.Test.YtlfokdbnbmebiaaDoorProg
set_option maxHeartbeats 8000000
set_option maxRecDepth 100000
set_option linter.unusedVariables false
set_option linter.unusedSimpArgs false
section
namespace Go.Proofs.YtlfokdbnbmebiaaDoor.Q
open Go.RowKit Go.Proofs.YtlfokdbnbmebiaaDoorW.PrintWords Go.Proofs.YtlfokdbnbmebiaaDoorW.PrintLast Go.Proofs.YtlfokdbnbmebiaaDoorW.PrintMore
attribute [local go_sem] max2_int min2_int max_two min_two max_three min_three max_four min_four
def errW : Option Int → Value
 | none => .nilIface
 | some c => .iface 0 (.int .i64 c)
theorem errW_none : errW none = .nilIface := rfl
theorem errW_some (c : Int) : errW (some c) = .iface 0 (.int .i64 c) := rfl
theorem info9 : (Tryd.prog.info? 9).map (fun i => (i.zero, i.size, i.bytes)) = some (some (.string ⟨#[]⟩), 1, 16) := by kernel_rfl
theorem info41 : (Tryd.prog.info? 41).map (fun i => (i.zero, i.size, i.bytes)) = some (some (.agg #[(.string ⟨#[]⟩), (.int .i64 0), (.int .i64 0), (.int .i64 0), (.int .i64 0), (.int .i64 0), (.int .i64 0), (.int .i64 0), (.int .i64 0)]), 9, 80) := by kernel_rfl
theorem info43 : (Tryd.prog.info? 43).map (fun i => (i.zero, i.size, i.bytes)) = some (some (.agg #[(.string ⟨#[]⟩), (.int .i64 0), (.int .i64 0), (.int .i64 0), (.int .i64 0), (.int .i64 0), (.int .i64 0), (.int .i64 0), (.int .i64 0)]), 9, 80) := by kernel_rfl
-- the values' own types
structure S39 where
 f0 : Int
 f1 : Int
 f2 : Int
 f3 : Int
 f4 : Int
 f5 : Int
def z39 : S39 := ⟨(0 : Int), (0 : Int), (0 : Int), (0 : Int), (0 : Int), (0 : Int)⟩
def k39 : Kd S39 := Kd.iso (Kd.pair (Kd.int .i64) (Kd.pair (Kd.int .i64) (Kd.pair (Kd.int .i64) (Kd.pair (Kd.int .i64) (Kd.pair (Kd.int .i64) (Kd.int .i64)))))) (fun x : S39 => (x.f0, x.f1, x.f2, x.f3, x.f4, x.f5))
theorem k39_open {w : World} {x : S39} {cs : List Value} (h : k39.K w x cs) : cs = [.int .i64 x.f0, .int .i64 x.f1, .int .i64 x.f2, .int .i64 x.f3, .int .i64 x.f4, .int .i64 x.f5] := by
 obtain ⟨_, _, rfl, rfl, ⟨_, _, rfl, rfl, ⟨_, _, rfl, rfl, ⟨_, _, rfl, rfl, ⟨_, _, rfl, rfl, rfl⟩⟩⟩⟩⟩ := h
 exact rfl
theorem k39_mkM (w : World) (base : Nat) (ok : Nat → Prop) (x : S39)  : k39.M w base ok x [.int .i64 x.f0, .int .i64 x.f1, .int .i64 x.f2, .int .i64 x.f3, .int .i64 x.f4, .int .i64 x.f5] := ⟨[.int .i64 x.f0], [.int .i64 x.f1, .int .i64 x.f2, .int .i64 x.f3, .int .i64 x.f4, .int .i64 x.f5], rfl, rfl, ⟨[.int .i64 x.f1], [.int .i64 x.f2, .int .i64 x.f3, .int .i64 x.f4, .int .i64 x.f5], rfl, rfl, ⟨[.int .i64 x.f2], [.int .i64 x.f3, .int .i64 x.f4, .int .i64 x.f5], rfl, rfl, ⟨[.int .i64 x.f3], [.int .i64 x.f4, .int .i64 x.f5], rfl, rfl, ⟨[.int .i64 x.f4], [.int .i64 x.f5], rfl, rfl, rfl⟩⟩⟩⟩⟩
structure S41 where
 f0 : ByteArray
 f1 : Int
 f2 : Int
 f3 : S39
def z41 : S41 := ⟨(⟨#[]⟩ : ByteArray), (0 : Int), (0 : Int), z39⟩
def k41 : Kd S41 := Kd.iso (Kd.pair Kd.string (Kd.pair (Kd.int .i64) (Kd.pair (Kd.int .i64) k39))) (fun x : S41 => (x.f0, x.f1, x.f2, x.f3))
theorem k41_open {w : World} {x : S41} {cs : List Value} (h : k41.K w x cs) : cs = [.string x.f0, .int .i64 x.f1, .int .i64 x.f2, .int .i64 x.f3.f0, .int .i64 x.f3.f1, .int .i64 x.f3.f2, .int .i64 x.f3.f3, .int .i64 x.f3.f4, .int .i64 x.f3.f5] := by
 obtain ⟨_, _, rfl, rfl, ⟨_, _, rfl, rfl, ⟨_, _, rfl, rfl, s3⟩⟩⟩ := h
 obtain rfl := k39_open s3
 exact rfl
theorem k41_mkM (w : World) (base : Nat) (ok : Nat → Prop) (x : S41)  : k41.M w base ok x [.string x.f0, .int .i64 x.f1, .int .i64 x.f2, .int .i64 x.f3.f0, .int .i64 x.f3.f1, .int .i64 x.f3.f2, .int .i64 x.f3.f3, .int .i64 x.f3.f4, .int .i64 x.f3.f5] := ⟨[.string x.f0], [.int .i64 x.f1, .int .i64 x.f2, .int .i64 x.f3.f0, .int .i64 x.f3.f1, .int .i64 x.f3.f2, .int .i64 x.f3.f3, .int .i64 x.f3.f4, .int .i64 x.f3.f5], rfl, rfl, ⟨[.int .i64 x.f1], [.int .i64 x.f2, .int .i64 x.f3.f0, .int .i64 x.f3.f1, .int .i64 x.f3.f2, .int .i64 x.f3.f3, .int .i64 x.f3.f4, .int .i64 x.f3.f5], rfl, rfl, ⟨[.int .i64 x.f2], [.int .i64 x.f3.f0, .int .i64 x.f3.f1, .int .i64 x.f3.f2, .int .i64 x.f3.f3, .int .i64 x.f3.f4, .int .i64 x.f3.f5], rfl, rfl, (k39_mkM w base ok x.f3 )⟩⟩⟩
def rd_T41 (xs : List S41) (i : Int) : S41 := xs.getD i.toNat z41
theorem at_T41 {w : World} {A : Option Addr} {n : Nat} {xs : List S41} (h : Kd.C k41 w A n xs) (i : Int) (h0 : 0 ≤ i) (h1 : i < n) : ∃ ad , A = some ad ∧ w.cell? (ad.add (i.toNat * 9)) = some (.string (rd_T41 xs i).f0) ∧ w.cell? ⟨(ad.add (i.toNat * 9)).block, (ad.add (i.toNat * 9)).off + 1, none⟩ = some (.int .i64 (rd_T41 xs i).f1) ∧ w.cell? ⟨(ad.add (i.toNat * 9)).block, (ad.add (i.toNat * 9)).off + 2, none⟩ = some (.int .i64 (rd_T41 xs i).f2) ∧ w.cell? ⟨(ad.add (i.toNat * 9)).block, (ad.add (i.toNat * 9)).off + 3, none⟩ = some (.int .i64 (rd_T41 xs i).f3.f0) ∧ w.cell? ⟨(ad.add (i.toNat * 9)).block, (ad.add (i.toNat * 9)).off + 4, none⟩ = some (.int .i64 (rd_T41 xs i).f3.f1) ∧ w.cell? ⟨(ad.add (i.toNat * 9)).block, (ad.add (i.toNat * 9)).off + 5, none⟩ = some (.int .i64 (rd_T41 xs i).f3.f2) ∧ w.cell? ⟨(ad.add (i.toNat * 9)).block, (ad.add (i.toNat * 9)).off + 6, none⟩ = some (.int .i64 (rd_T41 xs i).f3.f3) ∧ w.cell? ⟨(ad.add (i.toNat * 9)).block, (ad.add (i.toNat * 9)).off + 7, none⟩ = some (.int .i64 (rd_T41 xs i).f3.f4) ∧ w.cell? ⟨(ad.add (i.toNat * 9)).block, (ad.add (i.toNat * 9)).off + 8, none⟩ = some (.int .i64 (rd_T41 xs i).f3.f5) := by
 obtain ⟨ad, c, e, _, hK, hc0⟩ := Kd.C_get h z41 i h0 h1
 have hc : ∀ j u, c[j]? = some u → w.cell? (ad.add (i.toNat * 9 + j)) = some u := hc0
 obtain rfl := k41_open hK
 exact ⟨ad, e, hc 0 _ rfl, by rw [← add_field _ _ 1 (by omega)]; exact hc 1 _ rfl, by rw [← add_field _ _ 2 (by omega)]; exact hc 2 _ rfl, by rw [← add_field _ _ 3 (by omega)]; exact hc 3 _ rfl, by rw [← add_field _ _ 4 (by omega)]; exact hc 4 _ rfl, by rw [← add_field _ _ 5 (by omega)]; exact hc 5 _ rfl, by rw [← add_field _ _ 6 (by omega)]; exact hc 6 _ rfl, by rw [← add_field _ _ 7 (by omega)]; exact hc 7 _ rfl, by rw [← add_field _ _ 8 (by omega)]; exact hc 8 _ rfl⟩
structure S43 where
 f0 : ByteArray
 f1 : Int
 f2 : Int
 f3 : S39
def z43 : S43 := ⟨(⟨#[]⟩ : ByteArray), (0 : Int), (0 : Int), z39⟩
def k43 : Kd S43 := Kd.iso (Kd.pair Kd.string (Kd.pair (Kd.int .i64) (Kd.pair (Kd.int .i64) k39))) (fun x : S43 => (x.f0, x.f1, x.f2, x.f3))
theorem k43_open {w : World} {x : S43} {cs : List Value} (h : k43.K w x cs) : cs = [.string x.f0, .int .i64 x.f1, .int .i64 x.f2, .int .i64 x.f3.f0, .int .i64 x.f3.f1, .int .i64 x.f3.f2, .int .i64 x.f3.f3, .int .i64 x.f3.f4, .int .i64 x.f3.f5] := by
 obtain ⟨_, _, rfl, rfl, ⟨_, _, rfl, rfl, ⟨_, _, rfl, rfl, s3⟩⟩⟩ := h
 obtain rfl := k39_open s3
 exact rfl
theorem k43_mkM (w : World) (base : Nat) (ok : Nat → Prop) (x : S43)  : k43.M w base ok x [.string x.f0, .int .i64 x.f1, .int .i64 x.f2, .int .i64 x.f3.f0, .int .i64 x.f3.f1, .int .i64 x.f3.f2, .int .i64 x.f3.f3, .int .i64 x.f3.f4, .int .i64 x.f3.f5] := ⟨[.string x.f0], [.int .i64 x.f1, .int .i64 x.f2, .int .i64 x.f3.f0, .int .i64 x.f3.f1, .int .i64 x.f3.f2, .int .i64 x.f3.f3, .int .i64 x.f3.f4, .int .i64 x.f3.f5], rfl, rfl, ⟨[.int .i64 x.f1], [.int .i64 x.f2, .int .i64 x.f3.f0, .int .i64 x.f3.f1, .int .i64 x.f3.f2, .int .i64 x.f3.f3, .int .i64 x.f3.f4, .int .i64 x.f3.f5], rfl, rfl, ⟨[.int .i64 x.f2], [.int .i64 x.f3.f0, .int .i64 x.f3.f1, .int .i64 x.f3.f2, .int .i64 x.f3.f3, .int .i64 x.f3.f4, .int .i64 x.f3.f5], rfl, rfl, (k39_mkM w base ok x.f3 )⟩⟩⟩
def rd_T43 (xs : List S43) (i : Int) : S43 := xs.getD i.toNat z43
theorem at_T43 {w : World} {A : Option Addr} {n : Nat} {xs : List S43} (h : Kd.C k43 w A n xs) (i : Int) (h0 : 0 ≤ i) (h1 : i < n) : ∃ ad , A = some ad ∧ w.cell? (ad.add (i.toNat * 9)) = some (.string (rd_T43 xs i).f0) ∧ w.cell? ⟨(ad.add (i.toNat * 9)).block, (ad.add (i.toNat * 9)).off + 1, none⟩ = some (.int .i64 (rd_T43 xs i).f1) ∧ w.cell? ⟨(ad.add (i.toNat * 9)).block, (ad.add (i.toNat * 9)).off + 2, none⟩ = some (.int .i64 (rd_T43 xs i).f2) ∧ w.cell? ⟨(ad.add (i.toNat * 9)).block, (ad.add (i.toNat * 9)).off + 3, none⟩ = some (.int .i64 (rd_T43 xs i).f3.f0) ∧ w.cell? ⟨(ad.add (i.toNat * 9)).block, (ad.add (i.toNat * 9)).off + 4, none⟩ = some (.int .i64 (rd_T43 xs i).f3.f1) ∧ w.cell? ⟨(ad.add (i.toNat * 9)).block, (ad.add (i.toNat * 9)).off + 5, none⟩ = some (.int .i64 (rd_T43 xs i).f3.f2) ∧ w.cell? ⟨(ad.add (i.toNat * 9)).block, (ad.add (i.toNat * 9)).off + 6, none⟩ = some (.int .i64 (rd_T43 xs i).f3.f3) ∧ w.cell? ⟨(ad.add (i.toNat * 9)).block, (ad.add (i.toNat * 9)).off + 7, none⟩ = some (.int .i64 (rd_T43 xs i).f3.f4) ∧ w.cell? ⟨(ad.add (i.toNat * 9)).block, (ad.add (i.toNat * 9)).off + 8, none⟩ = some (.int .i64 (rd_T43 xs i).f3.f5) := by
 obtain ⟨ad, c, e, _, hK, hc0⟩ := Kd.C_get h z43 i h0 h1
 have hc : ∀ j u, c[j]? = some u → w.cell? (ad.add (i.toNat * 9 + j)) = some u := hc0
 obtain rfl := k43_open hK
 exact ⟨ad, e, hc 0 _ rfl, by rw [← add_field _ _ 1 (by omega)]; exact hc 1 _ rfl, by rw [← add_field _ _ 2 (by omega)]; exact hc 2 _ rfl, by rw [← add_field _ _ 3 (by omega)]; exact hc 3 _ rfl, by rw [← add_field _ _ 4 (by omega)]; exact hc 4 _ rfl, by rw [← add_field _ _ 5 (by omega)]; exact hc 5 _ rfl, by rw [← add_field _ _ 6 (by omega)]; exact hc 6 _ rfl, by rw [← add_field _ _ 7 (by omega)]; exact hc 7 _ rfl, by rw [← add_field _ _ 8 (by omega)]; exact hc 8 _ rfl⟩
structure S26 where
 f0 : Int
 f1 : (List S41)
 f2 : (List S43)
def k26 : Kd S26 := Kd.iso (Kd.pair (Kd.int .i64) (Kd.pair (Kd.slice 41 k41) (Kd.slice 43 k43))) (fun x : S26 => (x.f0, x.f1, x.f2))
theorem k26_open {w : World} {x : S26} {cs : List Value} (h : k26.K w x cs) : ∃ A1 c1 A2 c2, cs = [.int .i64 x.f0, .slice A1 x.f1.length c1, .slice A2 x.f2.length c2] ∧ x.f1.length ≤ c1 ∧ k41.C w A1 x.f1.length x.f1 ∧ x.f2.length ≤ c2 ∧ k43.C w A2 x.f2.length x.f2 := by
 obtain ⟨_, _, rfl, rfl, ⟨_, _, rfl, ⟨A1, c1, rfl, l1, g1⟩, ⟨A2, c2, rfl, l2, g2⟩⟩⟩ := h
 exact ⟨A1, c1, A2, c2, rfl, l1, g1, l2, g2⟩
structure S52 where
 f0 : ByteArray
 f1 : Int
 f2 : Bool
def wf39 (x : S39) : Prop := (Lit.int .i64 x.f0).wf = true ∧ (Lit.int .i64 x.f1).wf = true ∧ (Lit.int .i64 x.f2).wf = true ∧ (Lit.int .i64 x.f3).wf = true ∧ (Lit.int .i64 x.f4).wf = true ∧ (Lit.int .i64 x.f5).wf = true
def wf41 (x : S41) : Prop := x.f0.size ≤ maxLen ∧ (Lit.int .i64 x.f1).wf = true ∧ (Lit.int .i64 x.f2).wf = true ∧ wf39 x.f3
def wf43 (x : S43) : Prop := x.f0.size ≤ maxLen ∧ (Lit.int .i64 x.f1).wf = true ∧ (Lit.int .i64 x.f2).wf = true ∧ wf39 x.f3
def wf26 (x : S26) : Prop := (Lit.int .i64 x.f0).wf = true ∧ (x.f1.length ≤ maxLen ∧ ∀ y2 ∈ x.f1, wf41 y2) ∧ (x.f2.length ≤ maxLen ∧ ∀ y2 ∈ x.f2, wf43 y2)
theorem eqA39 (d : Nat) (w : World) (x0 y0 : Int) (x1 y1 : Int) (x2 y2 : Int) (x3 y3 : Int) (x4 y4 : Int) (x5 y5 : Int) :
  (Op.equalIn (d + 2) 39 (.agg #[.int .i64 x0, .int .i64 x1, .int .i64 x2, .int .i64 x3, .int .i64 x4, .int .i64 x5]) (.agg #[.int .i64 y0, .int .i64 y1, .int .i64 y2, .int .i64 y3, .int .i64 y4, .int .i64 y5])).run Tryd.prog w = .ok (x0 == y0 && (x1 == y1 && (x2 == y2 && (x3 == y3 && (x4 == y4 && (x5 == y5)))))) w := by
 refine eqA_of Tryd.underlying39 (by kernel_rfl) ?_
 refine eqf_cons (by rfl) (by go_simp; rfl) (by go_simp; rfl) (by go_simp) ?_
 refine eqf_cons (by rfl) (by go_simp; rfl) (by go_simp; rfl) (by go_simp) ?_
 refine eqf_cons (by rfl) (by go_simp; rfl) (by go_simp; rfl) (by go_simp) ?_
 refine eqf_cons (by rfl) (by go_simp; rfl) (by go_simp; rfl) (by go_simp) ?_
 refine eqf_cons (by rfl) (by go_simp; rfl) (by go_simp; rfl) (by go_simp) ?_
 exact eqf_last (by rfl) (by go_simp; rfl) (by go_simp; rfl) (by go_simp)
theorem eqA41 (d : Nat) (w : World) (x0 y0 : ByteArray) (x1 y1 : Int) (x2 y2 : Int) (x3 y3 : Int) (x4 y4 : Int) (x5 y5 : Int) (x6 y6 : Int) (x7 y7 : Int) (x8 y8 : Int) :
  (Op.equalIn (d + 3) 41 (.agg #[.string x0, .int .i64 x1, .int .i64 x2, .int .i64 x3, .int .i64 x4, .int .i64 x5, .int .i64 x6, .int .i64 x7, .int .i64 x8]) (.agg #[.string y0, .int .i64 y1, .int .i64 y2, .int .i64 y3, .int .i64 y4, .int .i64 y5, .int .i64 y6, .int .i64 y7, .int .i64 y8])).run Tryd.prog w = .ok (x0.toList == y0.toList && (x1 == y1 && (x2 == y2 && ((x3 == y3 && (x4 == y4 && (x5 == y5 && (x6 == y6 && (x7 == y7 && (x8 == y8)))))))))) w := by
 refine eqA_of Tryd.underlying41 (by kernel_rfl) ?_
 refine eqf_cons (by rfl) (by go_simp; rfl) (by go_simp; rfl) (by go_simp) ?_
 refine eqf_cons (by rfl) (by go_simp; rfl) (by go_simp; rfl) (by go_simp) ?_
 refine eqf_cons (by rfl) (by go_simp; rfl) (by go_simp; rfl) (by go_simp) ?_
 exact eqf_last (by rfl) (by go_simp) (by go_simp) (eqA39 (d + 0) w _ _ _ _ _ _ _ _ _ _ _ _)
theorem eqA43 (d : Nat) (w : World) (x0 y0 : ByteArray) (x1 y1 : Int) (x2 y2 : Int) (x3 y3 : Int) (x4 y4 : Int) (x5 y5 : Int) (x6 y6 : Int) (x7 y7 : Int) (x8 y8 : Int) :
  (Op.equalIn (d + 3) 43 (.agg #[.string x0, .int .i64 x1, .int .i64 x2, .int .i64 x3, .int .i64 x4, .int .i64 x5, .int .i64 x6, .int .i64 x7, .int .i64 x8]) (.agg #[.string y0, .int .i64 y1, .int .i64 y2, .int .i64 y3, .int .i64 y4, .int .i64 y5, .int .i64 y6, .int .i64 y7, .int .i64 y8])).run Tryd.prog w = .ok (x0.toList == y0.toList && (x1 == y1 && (x2 == y2 && ((x3 == y3 && (x4 == y4 && (x5 == y5 && (x6 == y6 && (x7 == y7 && (x8 == y8)))))))))) w := by
 refine eqA_of Tryd.underlying43 (by kernel_rfl) ?_
 refine eqf_cons (by rfl) (by go_simp; rfl) (by go_simp; rfl) (by go_simp) ?_
 refine eqf_cons (by rfl) (by go_simp; rfl) (by go_simp; rfl) (by go_simp) ?_
 refine eqf_cons (by rfl) (by go_simp; rfl) (by go_simp; rfl) (by go_simp) ?_
 exact eqf_last (by rfl) (by go_simp) (by go_simp) (eqA39 (d + 0) w _ _ _ _ _ _ _ _ _ _ _ _)
def IsS77 (w0 W : World) (g : Nat) (f0 : ByteArray) (f1 : Int) (f2 : Bool) : Prop := W.heap[g]? = some (.cells #[.string f0, .int .i64 f1, .bool f2] 77 (0, 0)) ∧ w0.heap.size ≤ g
theorem IsS77.grown {w0 W : World} {g : Nat} {f0 : ByteArray} {f1 : Int} {f2 : Bool} {W1 : World} {row : Option Nat} (h : IsS77 w0 W g f0 f1 f2) (hw : W.grownBy W1 row) (hne : some g ≠ row) : IsS77 w0 W1 g f0 f1 f2 := by
 obtain ⟨hb, hg⟩ := h
 exact ⟨blk_grown hb hw hne, hg⟩
theorem IsS77.kept {w0 W : World} {g : Nat} {f0 : ByteArray} {f1 : Int} {f2 : Bool} {W1 : World} {S : Nat → Prop} (h : IsS77 w0 W g f0 f1 f2) (hk : Kept W W1 S) (hne : ¬ S g) : IsS77 w0 W1 g f0 f1 f2 := by
 obtain ⟨hb, hg⟩ := h
 exact ⟨blk_kept hb hk hne, hg⟩
theorem IsS77.below {w0 W : World} {g : Nat} {f0 : ByteArray} {f1 : Int} {f2 : Bool} {W1 : World} (h : IsS77 w0 W g f0 f1 f2) (hw : Below W.heap.size W W1) : IsS77 w0 W1 g f0 f1 f2 := h.grown (grown_of_below hw none) (by simp)
theorem IsS77.alloc {w0 W : World} {g : Nat} {f0 : ByteArray} {f1 : Int} {f2 : Bool} (h : IsS77 w0 W g f0 f1 f2) (o : Obj) : IsS77 w0 (W.alloc o) g f0 f1 f2 := h.below (below_alloc (Below.refl _ _) o)
theorem IsS77.drewN {w0 W : World} {g : Nat} {f0 : ByteArray} {f1 : Int} {f2 : Bool} (h : IsS77 w0 W g f0 f1 f2) (m : Nat) : IsS77 w0 (W.drewN m) g f0 f1 f2 := h
theorem IsS77.drew {w0 W : World} {g : Nat} {f0 : ByteArray} {f1 : Int} {f2 : Bool} (h : IsS77 w0 W g f0 f1 f2) : IsS77 w0 W.drew g f0 f1 f2 := h
theorem IsS77.at_ {w0 W : World} {g : Nat} {f0 : ByteArray} {f1 : Int} {f2 : Bool} {w' : World} {m : Nat} (hq : W.drewN m = w') (h : IsS77 w0 W g f0 f1 f2) : IsS77 w0 w' g f0 f1 f2 := by subst hq; exact IsS77.drewN h m
theorem IsS77.apart {w0 W : World} {g : Nat} {f0 : ByteArray} {f1 : Int} {f2 : Bool} {α : Type} {d : Kd α} {e : Nat} {base : Nat} {ok : Nat → Prop} {v : Value} {xs : List α} (h : IsS77 w0 W g f0 f1 f2) (ho : d.R e W base ok v xs) (ht : ∀ q, q ∈ e :: d.E → q ≠ 77) : d.R e W base (fun k => ok k ∧ k ≠ g) v xs := by
 obtain ⟨hb, hg⟩ := h
 exact Kd.R_types ho hb ht
theorem IsS77.own_ne {w0 W : World} {g : Nat} {f0 : ByteArray} {f1 : Int} {f2 : Bool} {α : Type} {d : Kd α} {e : Nat} {base : Nat} {ok : Nat → Prop} {v : Value} {xs : List α} (h : IsS77 w0 W g f0 f1 f2) (ho : d.R e W base ok v xs) (ht : e ≠ 77) : some g ≠ v.ownBlock := by
 obtain ⟨hb, hg⟩ := h
 exact Kd.R_ne ho hb ht
theorem IsS77.lt {w0 W : World} {g : Nat} {f0 : ByteArray} {f1 : Int} {f2 : Bool} (h : IsS77 w0 W g f0 f1 f2) : g < W.heap.size := by
 obtain ⟨hb, hg⟩ := h
 exact blk_lt hb
theorem IsS77.ge {w0 W : World} {g : Nat} {f0 : ByteArray} {f1 : Int} {f2 : Bool} (h : IsS77 w0 W g f0 f1 f2) : w0.heap.size ≤ g := by
 obtain ⟨hb, hg⟩ := h
 exact hg
theorem IsS77.ne_blk {w0 W : World} {g : Nat} {f0 : ByteArray} {f1 : Int} {f2 : Bool} {a : Nat} {cs : Array Value} {t : TypeId} {fr : Nat × Nat} (h : IsS77 w0 W g f0 f1 f2) (hb2 : W.heap[a]? = some (.cells cs t fr)) (ht : t ≠ 77) : g ≠ a := by
 obtain ⟨hb, hg⟩ := h
 rintro rfl
 rw [hb] at hb2
 injection hb2 with hb2
 injection hb2 with _ ht2
 exact ht ht2.symm
theorem IsS77.far {w0 W : World} {g : Nat} {f0 : ByteArray} {f1 : Int} {f2 : Bool} {p : Addr} (h : IsS77 w0 W g f0 f1 f2) (hne : g ≠ p.block) (u : Value) : IsS77 w0 (W.setCell p u) g f0 f1 f2 := by
 obtain ⟨hb, hg⟩ := h
 exact ⟨blk_far hb hne u, hg⟩
theorem cellS77_0 {W : World} {g : Nat} {f0 : ByteArray} {f1 : Int} {f2 : Bool} (h : W.heap[g]? = some (.cells #[.string f0, .int .i64 f1, .bool f2] 77 (0, 0))) : W.cell? ⟨g, 0, none⟩ = some (.string f0) := (blk_cell h 0).trans rfl
theorem IsS77.set_0 {w0 W : World} {g : Nat} {f0 : ByteArray} {f1 : Int} {f2 : Bool} (h : IsS77 w0 W g f0 f1 f2) (x : ByteArray) : IsS77 w0 (W.setCell ⟨g, 0, none⟩ (.string x)) g x f1 f2 := by
 obtain ⟨hb, hg⟩ := h
 exact ⟨by simpa using blk_set hb 0 (.string x), hg⟩
theorem cellS77_1 {W : World} {g : Nat} {f0 : ByteArray} {f1 : Int} {f2 : Bool} (h : W.heap[g]? = some (.cells #[.string f0, .int .i64 f1, .bool f2] 77 (0, 0))) : W.cell? ⟨g, 1, none⟩ = some (.int .i64 f1) := (blk_cell h 1).trans rfl
theorem IsS77.set_1 {w0 W : World} {g : Nat} {f0 : ByteArray} {f1 : Int} {f2 : Bool} (h : IsS77 w0 W g f0 f1 f2) (x : Int) : IsS77 w0 (W.setCell ⟨g, 1, none⟩ (.int .i64 x)) g f0 x f2 := by
 obtain ⟨hb, hg⟩ := h
 exact ⟨by simpa using blk_set hb 1 (.int .i64 x), hg⟩
theorem cellS77_2 {W : World} {g : Nat} {f0 : ByteArray} {f1 : Int} {f2 : Bool} (h : W.heap[g]? = some (.cells #[.string f0, .int .i64 f1, .bool f2] 77 (0, 0))) : W.cell? ⟨g, 2, none⟩ = some (.bool f2) := (blk_cell h 2).trans rfl
theorem IsS77.set_2 {w0 W : World} {g : Nat} {f0 : ByteArray} {f1 : Int} {f2 : Bool} (h : IsS77 w0 W g f0 f1 f2) (x : Bool) : IsS77 w0 (W.setCell ⟨g, 2, none⟩ (.bool x)) g f0 f1 x := by
 obtain ⟨hb, hg⟩ := h
 exact ⟨by simpa using blk_set hb 2 (.bool x), hg⟩
theorem IsS77.new (w0 W : World) (f0 : ByteArray) (f1 : Int) (f2 : Bool) (hB : Below w0.heap.size w0 W) : IsS77 w0 (W.alloc (.cells #[.string f0, .int .i64 f1, .bool f2] 77)) W.heap.size f0 f1 f2 := ⟨by simpa using heap_alloc_new W _, hB.size⟩
def linescan_Scanner_next.f (s0_0 : ByteArray) (s0_1 : Int) (s0_2 : Bool) : Option (Int × Bool × ByteArray × Int × Bool) := if s0_1 ≥ (s0_0.size : Int) then (some (0, false, s0_0, s0_1, s0_2)) else (if 0 ≤ s0_1 then (if s0_1 < (s0_0.size : Int) then (some (bt s0_0 s0_1, true, s0_0, s0_1, s0_2)) else (none)) else (none))
theorem linescan_Scanner_next.calls (g : Nat) (s0_0 : ByteArray) (s0_1 : Int) (s0_2 : Bool) (r1 : Int) (r2 : Bool) (r3 : ByteArray) (r4 : Int) (r5 : Bool) (w0 w : World) (hI : IsS77 w0 w g s0_0 s0_1 s0_2) (hB : Below w0.heap.size w0 w) (h : linescan_Scanner_next.f s0_0 s0_1 s0_2 = some (r1, r2, r3, r4, r5)) :
  Calls Tryd.prog 81 #[.pointer (some ⟨g, 0, none⟩)] w fun e w' => e = .returned (.tuple #[.int .u8 r1, .bool r2]) ∧ IsS77 w0 w' g r3 r4 r5 ∧ Below w0.heap.size w0 w' ∧ KeepBut w w' g none := by
 have HI0 := am_ hI
 have HK := am_ (KeepBut.refl w g none)
 have HL := am_ hB.size
 clear hI
 have HW0 := am_ hB.size
 have HB := am_ hB
 clear hB
 have H := h
 clear h
 unfold linescan_Scanner_next.f at H
 by_cases c2 : s0_1 ≥ (s0_0.size : Int)
 ·rw [if_pos c2] at H
  have c2b0 : decide ((s0_0.size : Int) ≤ s0_1) = true := decide_eq_true c2
  clear c2
  simp only [Option.some.injEq, Prod.mk.injEq] at H
  obtain ⟨rfl, rfl, rfl, rfl, rfl⟩ := H
  obtain ⟨HGz3, hgz3⟩ := HI0.out
  have hcz3_0 := cellS77_0 HGz3
  have hcz3_1 := cellS77_1 HGz3
  have hcz3_2 := cellS77_2 HGz3
  have hfz3_0 := blk_frozen HGz3 0
  have hfz3_1 := blk_frozen HGz3 1
  have hfz3_2 := blk_frozen HGz3 2
  clear HGz3 hgz3
  go_enter Tryd.func81, Tryd.ntmps81
  go_wp2
  repeat (go_quiet (fail); try go_wp2)
  go_ret2
  exact ⟨by first | rfl | (simp [errW_none, errW_some] <;> rfl) | (simp [*, errW_none, errW_some] <;> rfl), by repeat (first | (with_reducible first | exact HI0.out | apply IsS77.alloc | apply IsS77.drewN | apply IsS77.drew | apply IsS77.set_0 | apply IsS77.set_1 | apply IsS77.set_2) | exact HI0.out), by repeat (first | (with_reducible first | exact HB.out | apply below_alloc | apply pw_below_drewN | apply below_drew1 | refine below_set ?_ (IsS77.ge HI0.out)) | exact HB.out), by repeat (first | (with_reducible first | exact HK.out | apply KeepBut.set_ | apply keep_drewN | apply keep_drew | apply keep_alloc) | exact HK.out)⟩
 rw [if_neg c2] at H
 have c2b0 : decide ((s0_0.size : Int) ≤ s0_1) = false := decide_eq_false c2
 clear c2
 by_cases c4 : 0 ≤ s0_1
 rotate_left
 ·rw [if_neg c4] at H
  exact absurd H (by simp)
 rw [if_pos c4] at H
 have c4b0 : decide (0 ≤ s0_1) = true := decide_eq_true c4
 clear c4
 by_cases c5 : s0_1 < (s0_0.size : Int)
 rotate_left
 ·rw [if_neg c5] at H
  exact absurd H (by simp)
 rw [if_pos c5] at H
 have c5b0 : decide (s0_1 < (s0_0.size : Int)) = true := decide_eq_true c5
 clear c5
 simp only [Option.some.injEq, Prod.mk.injEq] at H
 obtain ⟨rfl, rfl, rfl, rfl, rfl⟩ := H
 obtain ⟨HGz7, hgz7⟩ := HI0.out
 have hcz7_0 := cellS77_0 HGz7
 have hcz7_1 := cellS77_1 HGz7
 have hcz7_2 := cellS77_2 HGz7
 have hfz7_0 := blk_frozen HGz7 0
 have hfz7_1 := blk_frozen HGz7 1
 have hfz7_2 := blk_frozen HGz7 2
 clear HGz7 hgz7
 have p6 : 0 ≤ (s0_1 : Int) := of_decide_eq_true as_
 have q6 : s0_1 < (s0_0.size : Int) := of_decide_eq_true as_
 have hx6 := bt_at s0_0 s0_1
 replace p6 := eq_true p6
 replace q6 := eq_true q6
 go_enter Tryd.func81, Tryd.ntmps81
 go_wp2
 repeat (go_quiet (fail); try go_wp2)
 go_ret2
 exact ⟨by first | rfl | (simp [errW_none, errW_some] <;> rfl) | (simp [*, errW_none, errW_some] <;> rfl), by repeat (first | (with_reducible first | exact HI0.out | apply IsS77.alloc | apply IsS77.drewN | apply IsS77.drew | apply IsS77.set_0 | apply IsS77.set_1 | apply IsS77.set_2) | exact HI0.out), by repeat (first | (with_reducible first | exact HB.out | apply below_alloc | apply pw_below_drewN | apply below_drew1 | refine below_set ?_ (IsS77.ge HI0.out)) | exact HB.out), by repeat (first | (with_reducible first | exact HK.out | apply KeepBut.set_ | apply keep_drewN | apply keep_drew | apply keep_alloc) | exact HK.out)⟩
section
attribute [local go_sem high] eqA41 eqA43
mutual
def computusref17_Same.j0 : Nat → Bool → Int → List (S41) → List (S43) → Int → List (S41) → List (S43) → Option (Bool)
 | 0, _, _, _, _, _, _, _ => none
 | k + 1, x29, x332000, x332001, x332002, x333000, x333001, x333002 => if x29 = true then (some false) else (computusref17_Same.l0 k 0 x332000 x332001 x332002 x333000 x333001 x333002)
def computusref17_Same.l0 : Nat → Int → Int → List (S41) → List (S43) → Int → List (S41) → List (S43) → Option (Bool)
 | 0, _, _, _, _, _, _, _ => none
 | k + 1, x5, x332000, x332001, x332002, x333000, x333001, x333002 => if x5 < (x332001.length : Int) then (if 0 ≤ x5 then (if x5 < (x333001.length : Int) then (if (!((((rd_T41 x332001 x5).f0).toList) == (((rd_T41 x333001 x5).f0).toList)) || (!(((rd_T41 x332001 x5).f1) == ((rd_T41 x333001 x5).f1)) || (!(((rd_T41 x332001 x5).f2) == ((rd_T41 x333001 x5).f2)) || ((!(((rd_T41 x332001 x5).f3.f0) == ((rd_T41 x333001 x5).f3.f0)) || (!(((rd_T41 x332001 x5).f3.f1) == ((rd_T41 x333001 x5).f3.f1)) || (!(((rd_T41 x332001 x5).f3.f2) == ((rd_T41 x333001 x5).f3.f2)) || (!(((rd_T41 x332001 x5).f3.f3) == ((rd_T41 x333001 x5).f3.f3)) || (!(((rd_T41 x332001 x5).f3.f4) == ((rd_T41 x333001 x5).f3.f4)) || (!(((rd_T41 x332001 x5).f3.f5) == ((rd_T41 x333001 x5).f3.f5)))))))))))) = true then (some false) else (computusref17_Same.l0 k (wrap64 (x5 + 1)) x332000 x332001 x332002 x333000 x333001 x333002)) else (none)) else (none)) else (computusref17_Same.l1 k 0 x332000 x332001 x332002 x333000 x333001 x333002)
def computusref17_Same.l1 : Nat → Int → Int → List (S41) → List (S43) → Int → List (S41) → List (S43) → Option (Bool)
 | 0, _, _, _, _, _, _, _ => none
 | k + 1, x6, x332000, x332001, x332002, x333000, x333001, x333002 => if x6 < (x332002.length : Int) then (if 0 ≤ x6 then (if x6 < (x333002.length : Int) then (if (!((((rd_T43 x332002 x6).f0).toList) == (((rd_T43 x333002 x6).f0).toList)) || (!(((rd_T43 x332002 x6).f1) == ((rd_T43 x333002 x6).f1)) || (!(((rd_T43 x332002 x6).f2) == ((rd_T43 x333002 x6).f2)) || ((!(((rd_T43 x332002 x6).f3.f0) == ((rd_T43 x333002 x6).f3.f0)) || (!(((rd_T43 x332002 x6).f3.f1) == ((rd_T43 x333002 x6).f3.f1)) || (!(((rd_T43 x332002 x6).f3.f2) == ((rd_T43 x333002 x6).f3.f2)) || (!(((rd_T43 x332002 x6).f3.f3) == ((rd_T43 x333002 x6).f3.f3)) || (!(((rd_T43 x332002 x6).f3.f4) == ((rd_T43 x333002 x6).f3.f4)) || (!(((rd_T43 x332002 x6).f3.f5) == ((rd_T43 x333002 x6).f3.f5)))))))))))) = true then (some false) else (computusref17_Same.l1 k (wrap64 (x6 + 1)) x332000 x332001 x332002 x333000 x333001 x333002)) else (none)) else (none)) else (some true)
end
def computusref17_Same.f (k : Nat) (a0_0 : Int) (l0_1 : List (S41)) (l0_2 : List (S43)) (a1_0 : Int) (l1_1 : List (S41)) (l1_2 : List (S43)) : Option (Bool) := if a0_0 = a1_0 then (if (l0_1.length : Int) = (l1_1.length : Int) then (computusref17_Same.j0 k ((l0_2.length : Int) != (l1_2.length : Int)) a0_0 l0_1 l0_2 a1_0 l1_1 l1_2) else (computusref17_Same.j0 k true a0_0 l0_1 l0_2 a1_0 l1_1 l1_2)) else (computusref17_Same.j0 k true a0_0 l0_1 l0_2 a1_0 l1_1 l1_2)
theorem computusref17_Same.calls (k : Nat) (a0_0 : Int) (A0_1 : Option Addr) (c0_1 : Nat) (l0_1 : List (S41)) (A0_2 : Option Addr) (c0_2 : Nat) (l0_2 : List (S43)) (a1_0 : Int) (A1_1 : Option Addr) (c1_1 : Nat) (l1_1 : List (S41)) (A1_2 : Option Addr) (c1_2 : Nat) (l1_2 : List (S43)) (r : Bool) (w : World) (hr0_1 : Kd.C k41 w A0_1 l0_1.length l0_1) (hc0_1 : l0_1.length ≤ c0_1) (hr0_2 : Kd.C k43 w A0_2 l0_2.length l0_2) (hc0_2 : l0_2.length ≤ c0_2) (hr1_1 : Kd.C k41 w A1_1 l1_1.length l1_1) (hc1_1 : l1_1.length ≤ c1_1) (hr1_2 : Kd.C k43 w A1_2 l1_2.length l1_2) (hc1_2 : l1_2.length ≤ c1_2) (h : computusref17_Same.f k a0_0 l0_1 l0_2 a1_0 l1_1 l1_2 = some r) :
  Calls Tryd.prog 11 #[.agg #[.int .i64 a0_0, .slice A0_1 l0_1.length c0_1, .slice A0_2 l0_2.length c0_2], .agg #[.int .i64 a1_0, .slice A1_1 l1_1.length c1_1, .slice A1_2 l1_2.length c1_2]] w fun e w' => e = .returned (.bool r) ∧ Below w.heap.size w w' := by
 have hu26 := Tryd.underlying26
 have hu41 := Tryd.underlying41
 have hu43 := Tryd.underlying43
 have HR0_1 := am_ hr0_1
 have HC0_1 := am_ hc0_1
 clear hr0_1 hc0_1
 have HR0_2 := am_ hr0_2
 have HC0_2 := am_ hc0_2
 clear hr0_2 hc0_2
 have HR1_1 := am_ hr1_1
 have HC1_1 := am_ hc1_1
 clear hr1_1 hc1_1
 have HR1_2 := am_ hr1_2
 have HC1_2 := am_ hc1_2
 clear hr1_2 hc1_2
 have HB := am_ (Below.refl w.heap.size w)
 have H := h
 clear h
 unfold computusref17_Same.f at H
 have HC3 := am_ H
 clear H
 go_enter Tryd.func11, Tryd.ntmps11
 go_upto_region 1 with (first | ((with_reducible refine gate_dst (N := 2) rfl ?_); (try (refine gate_guard (by rfl) ?_; dsimp only)); refine bx_ (w := w) (N := 2) (cs := #[.int .i64 a0_0, .slice A0_1 l0_1.length c0_1, .slice A0_2 l0_2.length c0_2]) (t := 26) ?_; intro gb331 w4 BK331 n0_ GW331 GE331; clear HB; have HB := n0_; clear n0_) | ((with_reducible refine gate_dst (N := 3) rfl ?_); (try (refine gate_guard (by rfl) ?_; dsimp only)); refine be_ (N := 3) (cs := #[.int .i64 a1_0, .slice A1_1 l1_1.length c1_1, .slice A1_2 l1_2.length c1_2]) (t := 26) ?_; intro gb332 hg w5 hbox hb; have BK332 := am_ (hbox); have GW332 := gw_ (w := w) hg; have GE332 := gw_ (w := w) hg; replace HB := bt_ hb; have NB331_332 := ne_ hg BK331; have NB332_331 := nf_ hg BK331; replace BK331 := bw_ BK331 hb; clear hb hbox hg))
 (try simp only [Act.put, sA_, sZ_, sS_])
 go_cut [29] (fun v29 wc => ∃ (kq : Nat) (x29_2 : Bool), v29 = .bool x29_2 ∧ Aside0 (computusref17_Same.j0 kq x29_2 a0_0 l0_1 l0_2 a1_0 l1_1 l1_2 = some r) ∧ Aside0 (kq ≤ k) ∧ Aside0 (wc.heap[gb331]? = some (.cells #[.int .i64 a0_0, (.slice A0_1 l0_1.length c0_1), (.slice A0_2 l0_2.length c0_2)] 26 (0, 0))) ∧ Aside0 (wc.heap[gb332]? = some (.cells #[.int .i64 a1_0, (.slice A1_1 l1_1.length c1_1), (.slice A1_2 l1_2.length c1_2)] 26 (0, 0))) ∧ Aside0 (Below w.heap.size w wc))
 case first =>
  have H := HC3.out
  clear HC3
  by_cases c6 : a0_0 = a1_0
  rotate_left
  ·rw [if_neg c6] at H
   have c6b0 : (a0_0 == a1_0) = false := beq_eq_false_iff_ne.mpr c6
   have c6b1 : (a0_0 != a1_0) = true := bne_iff_ne.mpr c6
   (first | rw [c6b0] | (simp only [i64_w, i32_w]; rw [c6b0]) | skip)
   have H' := am_ H
   clear H
   have hnb14 := NB331_332.out
   have hnc14 := NB332_331.out
   obtain ⟨hcz15_0, hcz15_1, hcz15_2⟩ := cz3_ BK331.out
   obtain ⟨hfz15_0, hfz15_1, hfz15_2⟩ := fz3_ BK331.out
   obtain ⟨hcz16_0, hcz16_1, hcz16_2⟩ := cz3_ BK332.out
   obtain ⟨hfz16_0, hfz16_1, hfz16_2⟩ := fz3_ BK332.out
   go_wp2
   repeat (go_quiet (fail); try go_wp2)
   go_meet
   case rel => exact ⟨_, (true), rs_, H', ⟨by first | omega | exact Nat.le_refl _⟩, ⟨bk_ BK331.out⟩, ⟨bk_ BK332.out⟩, ⟨bh_⟩⟩
  rw [if_pos c6] at H
  have c6b0 : (a0_0 == a1_0) = true := beq_iff_eq.mpr c6
  have c6b1 : (a0_0 != a1_0) = false := bne_eq_false_iff_eq.mpr c6
  clear c6
  (first | rw [c6b0] | (simp only [i64_w, i32_w]; rw [c6b0]) | skip)
  by_cases c7 : (l0_1.length : Int) = (l1_1.length : Int)
  rotate_left
  ·rw [if_neg c7] at H
   have c7b0 : ((l0_1.length : Int) == (l1_1.length : Int)) = false := beq_eq_false_iff_ne.mpr c7
   have c7b1 : ((l0_1.length : Int) != (l1_1.length : Int)) = true := bne_iff_ne.mpr c7
   have c7b2 : (l0_1.length == l1_1.length) = false := by first | simpa using c7 | (simp at c7 ⊢; omega)
   have H' := am_ H
   clear H
   have hnb11 := NB331_332.out
   have hnc11 := NB332_331.out
   obtain ⟨hcz12_0, hcz12_1, hcz12_2⟩ := cz3_ BK331.out
   obtain ⟨hfz12_0, hfz12_1, hfz12_2⟩ := fz3_ BK331.out
   obtain ⟨hcz13_0, hcz13_1, hcz13_2⟩ := cz3_ BK332.out
   obtain ⟨hfz13_0, hfz13_1, hfz13_2⟩ := fz3_ BK332.out
   go_wp2
   repeat (go_quiet (fail); try go_wp2)
   go_meet
   case rel => exact ⟨_, (true), rs_, H', ⟨by first | omega | exact Nat.le_refl _⟩, ⟨bk_ BK331.out⟩, ⟨bk_ BK332.out⟩, ⟨bh_⟩⟩
  rw [if_pos c7] at H
  have c7b0 : ((l0_1.length : Int) == (l1_1.length : Int)) = true := beq_iff_eq.mpr c7
  have c7b1 : ((l0_1.length : Int) != (l1_1.length : Int)) = false := bne_eq_false_iff_eq.mpr c7
  have c7b2 : (l0_1.length == l1_1.length) = true := by first | simpa using c7 | (simp at c7 ⊢; omega)
  clear c7
  have H' := am_ H
  clear H
  have hnb8 := NB331_332.out
  have hnc8 := NB332_331.out
  obtain ⟨hcz9_0, hcz9_1, hcz9_2⟩ := cz3_ BK331.out
  obtain ⟨hfz9_0, hfz9_1, hfz9_2⟩ := fz3_ BK331.out
  obtain ⟨hcz10_0, hcz10_1, hcz10_2⟩ := cz3_ BK332.out
  obtain ⟨hfz10_0, hfz10_1, hfz10_2⟩ := fz3_ BK332.out
  go_wp2
  repeat (go_quiet (fail); try go_wp2)
  go_meet
  case rel => exact ⟨_, (((l0_2.length : Int) != (l1_2.length : Int))), rs_, H', ⟨by first | omega | exact Nat.le_refl _⟩, ⟨bk_ BK331.out⟩, ⟨bk_ BK332.out⟩, ⟨bh_⟩⟩
 case rest =>
  clear HC3
  obtain ⟨kq, x29_2, rfl, HA, HJ2, BK331, BK332, HB⟩ := hcut
  cases kq with
  | zero => exact absurd HA.out (by simp [computusref17_Same.j0])
  | succ kj2 =>
   have H := HA.out
   clear HA
   simp only [computusref17_Same.j0] at H
   by_cases c17 : x29_2 = true
   ·subst c17
    replace H := it_ H
    obtain rfl := Option.some.inj H
    go_wp2
    repeat (go_quiet (fail); try go_wp2)
    go_ret
    exact rt_
   replace c17 := Bool.eq_false_iff.mpr c17
   subst c17
   replace H := if_ H
   have H' := am_ H
   clear H
   go_wp2
   repeat (go_quiet (fail); try go_wp2)
   go_loopg [5] kj2 (fun kq v5 w' => ∃ (x5_2 : Int), v5 = .int .i64 x5_2 ∧ Aside0 (computusref17_Same.l0 kq x5_2 a0_0 l0_1 l0_2 a1_0 l1_1 l1_2 = some r) ∧ Aside0 (kq ≤ kj2) ∧ Aside0 (w'.heap[gb331]? = some (.cells #[.int .i64 a0_0, (.slice A0_1 l0_1.length c0_1), (.slice A0_2 l0_2.length c0_2)] 26 (0, 0))) ∧ Aside0 (w'.heap[gb332]? = some (.cells #[.int .i64 a1_0, (.slice A1_1 l1_1.length c1_1), (.slice A1_2 l1_2.length c1_2)] 26 (0, 0))) ∧ Aside0 (Below w.heap.size w w'))
   case atStart => exact ⟨(0), rs_, H', ⟨Nat.le_refl _⟩, ⟨bk_ BK331.out⟩, ⟨bk_ BK332.out⟩, ⟨bh_⟩⟩
   case round =>
    clear H'
    obtain ⟨x5_2, rfl, HA, HK2, BK331, BK332, HB⟩ := hrel
    cases gk with
    | zero => exact absurd HA.out (by simp [computusref17_Same.l0])
    | succ k2 =>
     have H := HA.out
     clear HA
     simp only [computusref17_Same.l0] at H
     by_cases c18 : x5_2 < (l0_1.length : Int)
     ·rw [if_pos c18] at H
      have c18b0 : decide (x5_2 < (l0_1.length : Int)) = true := decide_eq_true c18
      clear c18
      by_cases c19 : 0 ≤ x5_2
      rotate_left
      ·rw [if_neg c19] at H
       exact absurd H (by simp)
      rw [if_pos c19] at H
      have c19b0 : decide (0 ≤ x5_2) = true := decide_eq_true c19
      clear c19
      by_cases c20 : x5_2 < (l1_1.length : Int)
      rotate_left
      ·rw [if_neg c20] at H
       exact absurd H (by simp)
      rw [if_pos c20] at H
      have c20b0 : decide (x5_2 < (l1_1.length : Int)) = true := decide_eq_true c20
      clear c20
      by_cases c21 : (!((((rd_T41 l0_1 x5_2).f0).toList) == (((rd_T41 l1_1 x5_2).f0).toList)) || (!(((rd_T41 l0_1 x5_2).f1) == ((rd_T41 l1_1 x5_2).f1)) || (!(((rd_T41 l0_1 x5_2).f2) == ((rd_T41 l1_1 x5_2).f2)) || ((!(((rd_T41 l0_1 x5_2).f3.f0) == ((rd_T41 l1_1 x5_2).f3.f0)) || (!(((rd_T41 l0_1 x5_2).f3.f1) == ((rd_T41 l1_1 x5_2).f3.f1)) || (!(((rd_T41 l0_1 x5_2).f3.f2) == ((rd_T41 l1_1 x5_2).f3.f2)) || (!(((rd_T41 l0_1 x5_2).f3.f3) == ((rd_T41 l1_1 x5_2).f3.f3)) || (!(((rd_T41 l0_1 x5_2).f3.f4) == ((rd_T41 l1_1 x5_2).f3.f4)) || (!(((rd_T41 l0_1 x5_2).f3.f5) == ((rd_T41 l1_1 x5_2).f3.f5)))))))))))) = true
      ·rw [if_pos c21] at H
       have c21b0 : (!((((rd_T41 l0_1 x5_2).f0).toList) == (((rd_T41 l1_1 x5_2).f0).toList)) || (!(((rd_T41 l0_1 x5_2).f1) == ((rd_T41 l1_1 x5_2).f1)) || (!(((rd_T41 l0_1 x5_2).f2) == ((rd_T41 l1_1 x5_2).f2)) || ((!(((rd_T41 l0_1 x5_2).f3.f0) == ((rd_T41 l1_1 x5_2).f3.f0)) || (!(((rd_T41 l0_1 x5_2).f3.f1) == ((rd_T41 l1_1 x5_2).f3.f1)) || (!(((rd_T41 l0_1 x5_2).f3.f2) == ((rd_T41 l1_1 x5_2).f3.f2)) || (!(((rd_T41 l0_1 x5_2).f3.f3) == ((rd_T41 l1_1 x5_2).f3.f3)) || (!(((rd_T41 l0_1 x5_2).f3.f4) == ((rd_T41 l1_1 x5_2).f3.f4)) || (!(((rd_T41 l0_1 x5_2).f3.f5) == ((rd_T41 l1_1 x5_2).f3.f5)))))))))))) = true := c21
       clear c21
       obtain rfl := Option.some.inj H
       have hnb22 := NB331_332.out
       have hnc22 := NB332_331.out
       obtain ⟨hcz23_0, hcz23_1, hcz23_2⟩ := cz3_ BK331.out
       obtain ⟨hfz23_0, hfz23_1, hfz23_2⟩ := fz3_ BK331.out
       have p333 : 0 ≤ (x5_2 : Int) := of_decide_eq_true as_
       have q333 : x5_2 < (l0_1.length : Int) := of_decide_eq_true as_
       obtain ⟨ad333, e333, hx333_0, hx333_1, hx333_2, hx333_3, hx333_4, hx333_5, hx333_6, hx333_7, hx333_8⟩ := at_T41 HR0_1.out x5_2 p333 q333
       cases e333
       replace hx333_0 := cm_ HB.out hx333_0
       replace hx333_1 := cm_ HB.out hx333_1
       replace hx333_2 := cm_ HB.out hx333_2
       replace hx333_3 := cm_ HB.out hx333_3
       replace hx333_4 := cm_ HB.out hx333_4
       replace hx333_5 := cm_ HB.out hx333_5
       replace hx333_6 := cm_ HB.out hx333_6
       replace hx333_7 := cm_ HB.out hx333_7
       replace hx333_8 := cm_ HB.out hx333_8
       replace p333 := eq_true p333
       replace q333 := eq_true q333
       obtain ⟨hcz24_0, hcz24_1, hcz24_2⟩ := cz3_ BK332.out
       obtain ⟨hfz24_0, hfz24_1, hfz24_2⟩ := fz3_ BK332.out
       have p334 : 0 ≤ (x5_2 : Int) := of_decide_eq_true as_
       have q334 : x5_2 < (l1_1.length : Int) := of_decide_eq_true as_
       obtain ⟨ad334, e334, hx334_0, hx334_1, hx334_2, hx334_3, hx334_4, hx334_5, hx334_6, hx334_7, hx334_8⟩ := at_T41 HR1_1.out x5_2 p334 q334
       cases e334
       replace hx334_0 := cm_ HB.out hx334_0
       replace hx334_1 := cm_ HB.out hx334_1
       replace hx334_2 := cm_ HB.out hx334_2
       replace hx334_3 := cm_ HB.out hx334_3
       replace hx334_4 := cm_ HB.out hx334_4
       replace hx334_5 := cm_ HB.out hx334_5
       replace hx334_6 := cm_ HB.out hx334_6
       replace hx334_7 := cm_ HB.out hx334_7
       replace hx334_8 := cm_ HB.out hx334_8
       replace p334 := eq_true p334
       replace q334 := eq_true q334
       go_wp2
       repeat (go_quiet (fail); try go_wp2)
       go_ret
       exact rt_
      rw [if_neg c21] at H
      have c21b0 : (!((((rd_T41 l0_1 x5_2).f0).toList) == (((rd_T41 l1_1 x5_2).f0).toList)) || (!(((rd_T41 l0_1 x5_2).f1) == ((rd_T41 l1_1 x5_2).f1)) || (!(((rd_T41 l0_1 x5_2).f2) == ((rd_T41 l1_1 x5_2).f2)) || ((!(((rd_T41 l0_1 x5_2).f3.f0) == ((rd_T41 l1_1 x5_2).f3.f0)) || (!(((rd_T41 l0_1 x5_2).f3.f1) == ((rd_T41 l1_1 x5_2).f3.f1)) || (!(((rd_T41 l0_1 x5_2).f3.f2) == ((rd_T41 l1_1 x5_2).f3.f2)) || (!(((rd_T41 l0_1 x5_2).f3.f3) == ((rd_T41 l1_1 x5_2).f3.f3)) || (!(((rd_T41 l0_1 x5_2).f3.f4) == ((rd_T41 l1_1 x5_2).f3.f4)) || (!(((rd_T41 l0_1 x5_2).f3.f5) == ((rd_T41 l1_1 x5_2).f3.f5)))))))))))) = false := by simpa using c21
      clear c21
      have H' := am_ H
      clear H
      have hnb25 := NB331_332.out
      have hnc25 := NB332_331.out
      obtain ⟨hcz26_0, hcz26_1, hcz26_2⟩ := cz3_ BK331.out
      obtain ⟨hfz26_0, hfz26_1, hfz26_2⟩ := fz3_ BK331.out
      have p333 : 0 ≤ (x5_2 : Int) := of_decide_eq_true as_
      have q333 : x5_2 < (l0_1.length : Int) := of_decide_eq_true as_
      obtain ⟨ad333, e333, hx333_0, hx333_1, hx333_2, hx333_3, hx333_4, hx333_5, hx333_6, hx333_7, hx333_8⟩ := at_T41 HR0_1.out x5_2 p333 q333
      cases e333
      replace hx333_0 := cm_ HB.out hx333_0
      replace hx333_1 := cm_ HB.out hx333_1
      replace hx333_2 := cm_ HB.out hx333_2
      replace hx333_3 := cm_ HB.out hx333_3
      replace hx333_4 := cm_ HB.out hx333_4
      replace hx333_5 := cm_ HB.out hx333_5
      replace hx333_6 := cm_ HB.out hx333_6
      replace hx333_7 := cm_ HB.out hx333_7
      replace hx333_8 := cm_ HB.out hx333_8
      replace p333 := eq_true p333
      replace q333 := eq_true q333
      obtain ⟨hcz27_0, hcz27_1, hcz27_2⟩ := cz3_ BK332.out
      obtain ⟨hfz27_0, hfz27_1, hfz27_2⟩ := fz3_ BK332.out
      have p334 : 0 ≤ (x5_2 : Int) := of_decide_eq_true as_
      have q334 : x5_2 < (l1_1.length : Int) := of_decide_eq_true as_
      obtain ⟨ad334, e334, hx334_0, hx334_1, hx334_2, hx334_3, hx334_4, hx334_5, hx334_6, hx334_7, hx334_8⟩ := at_T41 HR1_1.out x5_2 p334 q334
      cases e334
      replace hx334_0 := cm_ HB.out hx334_0
      replace hx334_1 := cm_ HB.out hx334_1
      replace hx334_2 := cm_ HB.out hx334_2
      replace hx334_3 := cm_ HB.out hx334_3
      replace hx334_4 := cm_ HB.out hx334_4
      replace hx334_5 := cm_ HB.out hx334_5
      replace hx334_6 := cm_ HB.out hx334_6
      replace hx334_7 := cm_ HB.out hx334_7
      replace hx334_8 := cm_ HB.out hx334_8
      replace p334 := eq_true p334
      replace q334 := eq_true q334
      go_wp2
      repeat (go_quiet (fail); try go_wp2)
      go_roundg k2
      case measure => have := HJ2.out; have := HK2.out; omega
      case rel => exact ⟨(wrap64 (x5_2 + 1)), rs_, H', ⟨by have := HJ2.out; have := HK2.out; omega⟩, ⟨bk_ BK331.out⟩, ⟨bk_ BK332.out⟩, ⟨bh_⟩⟩
     rw [if_neg c18] at H
     have c18b0 : decide (x5_2 < (l0_1.length : Int)) = false := decide_eq_false c18
     clear c18
     have H' := am_ H
     clear H
     have hnb28 := NB331_332.out
     have hnc28 := NB332_331.out
     obtain ⟨hcz29_0, hcz29_1, hcz29_2⟩ := cz3_ BK331.out
     obtain ⟨hfz29_0, hfz29_1, hfz29_2⟩ := fz3_ BK331.out
     go_wp2
     repeat (go_quiet (fail); try go_wp2)
     go_loopg [6] k2 (fun kq v6 w' => ∃ (x6_3 : Int), v6 = .int .i64 x6_3 ∧ Aside0 (computusref17_Same.l1 kq x6_3 a0_0 l0_1 l0_2 a1_0 l1_1 l1_2 = some r) ∧ Aside0 (kq ≤ k2) ∧ Aside0 (w'.heap[gb331]? = some (.cells #[.int .i64 a0_0, (.slice A0_1 l0_1.length c0_1), (.slice A0_2 l0_2.length c0_2)] 26 (0, 0))) ∧ Aside0 (w'.heap[gb332]? = some (.cells #[.int .i64 a1_0, (.slice A1_1 l1_1.length c1_1), (.slice A1_2 l1_2.length c1_2)] 26 (0, 0))) ∧ Aside0 (Below w.heap.size w w'))
     case atStart => exact ⟨(0), rs_, H', ⟨Nat.le_refl _⟩, ⟨bk_ BK331.out⟩, ⟨bk_ BK332.out⟩, ⟨bh_⟩⟩
     case round =>
      clear H'
      obtain ⟨x6_3, rfl, HA, HK3, BK331, BK332, HB⟩ := hrel
      cases gk with
      | zero => exact absurd HA.out (by simp [computusref17_Same.l1])
      | succ k3 =>
       have H := HA.out
       clear HA
       simp only [computusref17_Same.l1] at H
       by_cases c30 : x6_3 < (l0_2.length : Int)
       rotate_left
       ·rw [if_neg c30] at H
        have c30b0 : decide (x6_3 < (l0_2.length : Int)) = false := decide_eq_false c30
        clear c30
        obtain rfl := Option.some.inj H
        have hnb40 := NB331_332.out
        have hnc40 := NB332_331.out
        obtain ⟨hcz41_0, hcz41_1, hcz41_2⟩ := cz3_ BK331.out
        obtain ⟨hfz41_0, hfz41_1, hfz41_2⟩ := fz3_ BK331.out
        go_wp2
        repeat (go_quiet (fail); try go_wp2)
        go_ret
        exact rt_
       rw [if_pos c30] at H
       have c30b0 : decide (x6_3 < (l0_2.length : Int)) = true := decide_eq_true c30
       clear c30
       by_cases c31 : 0 ≤ x6_3
       rotate_left
       ·rw [if_neg c31] at H
        exact absurd H (by simp)
       rw [if_pos c31] at H
       have c31b0 : decide (0 ≤ x6_3) = true := decide_eq_true c31
       clear c31
       by_cases c32 : x6_3 < (l1_2.length : Int)
       rotate_left
       ·rw [if_neg c32] at H
        exact absurd H (by simp)
       rw [if_pos c32] at H
       have c32b0 : decide (x6_3 < (l1_2.length : Int)) = true := decide_eq_true c32
       clear c32
       by_cases c33 : (!((((rd_T43 l0_2 x6_3).f0).toList) == (((rd_T43 l1_2 x6_3).f0).toList)) || (!(((rd_T43 l0_2 x6_3).f1) == ((rd_T43 l1_2 x6_3).f1)) || (!(((rd_T43 l0_2 x6_3).f2) == ((rd_T43 l1_2 x6_3).f2)) || ((!(((rd_T43 l0_2 x6_3).f3.f0) == ((rd_T43 l1_2 x6_3).f3.f0)) || (!(((rd_T43 l0_2 x6_3).f3.f1) == ((rd_T43 l1_2 x6_3).f3.f1)) || (!(((rd_T43 l0_2 x6_3).f3.f2) == ((rd_T43 l1_2 x6_3).f3.f2)) || (!(((rd_T43 l0_2 x6_3).f3.f3) == ((rd_T43 l1_2 x6_3).f3.f3)) || (!(((rd_T43 l0_2 x6_3).f3.f4) == ((rd_T43 l1_2 x6_3).f3.f4)) || (!(((rd_T43 l0_2 x6_3).f3.f5) == ((rd_T43 l1_2 x6_3).f3.f5)))))))))))) = true
       ·rw [if_pos c33] at H
        have c33b0 : (!((((rd_T43 l0_2 x6_3).f0).toList) == (((rd_T43 l1_2 x6_3).f0).toList)) || (!(((rd_T43 l0_2 x6_3).f1) == ((rd_T43 l1_2 x6_3).f1)) || (!(((rd_T43 l0_2 x6_3).f2) == ((rd_T43 l1_2 x6_3).f2)) || ((!(((rd_T43 l0_2 x6_3).f3.f0) == ((rd_T43 l1_2 x6_3).f3.f0)) || (!(((rd_T43 l0_2 x6_3).f3.f1) == ((rd_T43 l1_2 x6_3).f3.f1)) || (!(((rd_T43 l0_2 x6_3).f3.f2) == ((rd_T43 l1_2 x6_3).f3.f2)) || (!(((rd_T43 l0_2 x6_3).f3.f3) == ((rd_T43 l1_2 x6_3).f3.f3)) || (!(((rd_T43 l0_2 x6_3).f3.f4) == ((rd_T43 l1_2 x6_3).f3.f4)) || (!(((rd_T43 l0_2 x6_3).f3.f5) == ((rd_T43 l1_2 x6_3).f3.f5)))))))))))) = true := c33
        clear c33
        obtain rfl := Option.some.inj H
        have hnb34 := NB331_332.out
        have hnc34 := NB332_331.out
        obtain ⟨hcz35_0, hcz35_1, hcz35_2⟩ := cz3_ BK331.out
        obtain ⟨hfz35_0, hfz35_1, hfz35_2⟩ := fz3_ BK331.out
        have p335 : 0 ≤ (x6_3 : Int) := of_decide_eq_true as_
        have q335 : x6_3 < (l0_2.length : Int) := of_decide_eq_true as_
        obtain ⟨ad335, e335, hx335_0, hx335_1, hx335_2, hx335_3, hx335_4, hx335_5, hx335_6, hx335_7, hx335_8⟩ := at_T43 HR0_2.out x6_3 p335 q335
        cases e335
        replace hx335_0 := cm_ HB.out hx335_0
        replace hx335_1 := cm_ HB.out hx335_1
        replace hx335_2 := cm_ HB.out hx335_2
        replace hx335_3 := cm_ HB.out hx335_3
        replace hx335_4 := cm_ HB.out hx335_4
        replace hx335_5 := cm_ HB.out hx335_5
        replace hx335_6 := cm_ HB.out hx335_6
        replace hx335_7 := cm_ HB.out hx335_7
        replace hx335_8 := cm_ HB.out hx335_8
        replace p335 := eq_true p335
        replace q335 := eq_true q335
        obtain ⟨hcz36_0, hcz36_1, hcz36_2⟩ := cz3_ BK332.out
        obtain ⟨hfz36_0, hfz36_1, hfz36_2⟩ := fz3_ BK332.out
        have p336 : 0 ≤ (x6_3 : Int) := of_decide_eq_true as_
        have q336 : x6_3 < (l1_2.length : Int) := of_decide_eq_true as_
        obtain ⟨ad336, e336, hx336_0, hx336_1, hx336_2, hx336_3, hx336_4, hx336_5, hx336_6, hx336_7, hx336_8⟩ := at_T43 HR1_2.out x6_3 p336 q336
        cases e336
        replace hx336_0 := cm_ HB.out hx336_0
        replace hx336_1 := cm_ HB.out hx336_1
        replace hx336_2 := cm_ HB.out hx336_2
        replace hx336_3 := cm_ HB.out hx336_3
        replace hx336_4 := cm_ HB.out hx336_4
        replace hx336_5 := cm_ HB.out hx336_5
        replace hx336_6 := cm_ HB.out hx336_6
        replace hx336_7 := cm_ HB.out hx336_7
        replace hx336_8 := cm_ HB.out hx336_8
        replace p336 := eq_true p336
        replace q336 := eq_true q336
        go_wp2
        repeat (go_quiet (fail); try go_wp2)
        go_ret
        exact rt_
       rw [if_neg c33] at H
       have c33b0 : (!((((rd_T43 l0_2 x6_3).f0).toList) == (((rd_T43 l1_2 x6_3).f0).toList)) || (!(((rd_T43 l0_2 x6_3).f1) == ((rd_T43 l1_2 x6_3).f1)) || (!(((rd_T43 l0_2 x6_3).f2) == ((rd_T43 l1_2 x6_3).f2)) || ((!(((rd_T43 l0_2 x6_3).f3.f0) == ((rd_T43 l1_2 x6_3).f3.f0)) || (!(((rd_T43 l0_2 x6_3).f3.f1) == ((rd_T43 l1_2 x6_3).f3.f1)) || (!(((rd_T43 l0_2 x6_3).f3.f2) == ((rd_T43 l1_2 x6_3).f3.f2)) || (!(((rd_T43 l0_2 x6_3).f3.f3) == ((rd_T43 l1_2 x6_3).f3.f3)) || (!(((rd_T43 l0_2 x6_3).f3.f4) == ((rd_T43 l1_2 x6_3).f3.f4)) || (!(((rd_T43 l0_2 x6_3).f3.f5) == ((rd_T43 l1_2 x6_3).f3.f5)))))))))))) = false := by simpa using c33
       clear c33
       have H' := am_ H
       clear H
       have hnb37 := NB331_332.out
       have hnc37 := NB332_331.out
       obtain ⟨hcz38_0, hcz38_1, hcz38_2⟩ := cz3_ BK331.out
       obtain ⟨hfz38_0, hfz38_1, hfz38_2⟩ := fz3_ BK331.out
       have p335 : 0 ≤ (x6_3 : Int) := of_decide_eq_true as_
       have q335 : x6_3 < (l0_2.length : Int) := of_decide_eq_true as_
       obtain ⟨ad335, e335, hx335_0, hx335_1, hx335_2, hx335_3, hx335_4, hx335_5, hx335_6, hx335_7, hx335_8⟩ := at_T43 HR0_2.out x6_3 p335 q335
       cases e335
       replace hx335_0 := cm_ HB.out hx335_0
       replace hx335_1 := cm_ HB.out hx335_1
       replace hx335_2 := cm_ HB.out hx335_2
       replace hx335_3 := cm_ HB.out hx335_3
       replace hx335_4 := cm_ HB.out hx335_4
       replace hx335_5 := cm_ HB.out hx335_5
       replace hx335_6 := cm_ HB.out hx335_6
       replace hx335_7 := cm_ HB.out hx335_7
       replace hx335_8 := cm_ HB.out hx335_8
       replace p335 := eq_true p335
       replace q335 := eq_true q335
       obtain ⟨hcz39_0, hcz39_1, hcz39_2⟩ := cz3_ BK332.out
       obtain ⟨hfz39_0, hfz39_1, hfz39_2⟩ := fz3_ BK332.out
       have p336 : 0 ≤ (x6_3 : Int) := of_decide_eq_true as_
       have q336 : x6_3 < (l1_2.length : Int) := of_decide_eq_true as_
       obtain ⟨ad336, e336, hx336_0, hx336_1, hx336_2, hx336_3, hx336_4, hx336_5, hx336_6, hx336_7, hx336_8⟩ := at_T43 HR1_2.out x6_3 p336 q336
       cases e336
       replace hx336_0 := cm_ HB.out hx336_0
       replace hx336_1 := cm_ HB.out hx336_1
       replace hx336_2 := cm_ HB.out hx336_2
       replace hx336_3 := cm_ HB.out hx336_3
       replace hx336_4 := cm_ HB.out hx336_4
       replace hx336_5 := cm_ HB.out hx336_5
       replace hx336_6 := cm_ HB.out hx336_6
       replace hx336_7 := cm_ HB.out hx336_7
       replace hx336_8 := cm_ HB.out hx336_8
       replace p336 := eq_true p336
       replace q336 := eq_true q336
       go_wp2
       repeat (go_quiet (fail); try go_wp2)
       go_roundg k3
       case measure => have := HJ2.out; have := HK2.out; have := HK3.out; omega
       case rel => exact ⟨(wrap64 (x6_3 + 1)), rs_, H', ⟨by have := HJ2.out; have := HK2.out; have := HK3.out; omega⟩, ⟨bk_ BK331.out⟩, ⟨bk_ BK332.out⟩, ⟨bh_⟩⟩
end
def computuslaw26_few.f (a0_0 : Int) (l0_1 : List (S41)) (l0_2 : List (S43)) : Option (Bool) := if (l0_1.length : Int) ≤ 30 then (some (decide ((l0_2.length : Int) ≤ 60))) else (some false)
theorem computuslaw26_few.calls (a0_0 : Int) (A0_1 : Option Addr) (c0_1 : Nat) (l0_1 : List (S41)) (A0_2 : Option Addr) (c0_2 : Nat) (l0_2 : List (S43)) (r : Bool) (w : World) (hr0_1 : Kd.C k41 w A0_1 l0_1.length l0_1) (hc0_1 : l0_1.length ≤ c0_1) (hr0_2 : Kd.C k43 w A0_2 l0_2.length l0_2) (hc0_2 : l0_2.length ≤ c0_2) (h : computuslaw26_few.f a0_0 l0_1 l0_2 = some r) :
  Calls Tryd.prog 12 #[.agg #[.int .i64 a0_0, .slice A0_1 l0_1.length c0_1, .slice A0_2 l0_2.length c0_2]] w fun e w' => e = .returned (.bool r) ∧ Below w.heap.size w w' := by
 have hu26 := Tryd.underlying26
 have HR0_1 := am_ hr0_1
 have HC0_1 := am_ hc0_1
 clear hr0_1 hc0_1
 have HR0_2 := am_ hr0_2
 have HC0_2 := am_ hc0_2
 clear hr0_2 hc0_2
 have HB := am_ (Below.refl w.heap.size w)
 have H := h
 clear h
 unfold computuslaw26_few.f at H
 by_cases c2 : (l0_1.length : Int) ≤ 30
 ·rw [if_pos c2] at H
  have c2b0 : decide ((l0_1.length : Int) ≤ 30) = true := decide_eq_true c2
  have c2b1 : decide (l0_1.length ≤ 30) = true := decide_eq_true (by omega)
  clear c2
  obtain rfl := Option.some.inj H
  go_enter Tryd.func12, Tryd.ntmps12
  go_wp2_with (first | ((with_reducible refine gate_dst (N := 1) rfl ?_); (try (refine gate_guard (by rfl) ?_; dsimp only)); refine bx_ (w := w) (N := 1) (cs := #[.int .i64 a0_0, .slice A0_1 l0_1.length c0_1, .slice A0_2 l0_2.length c0_2]) (t := 26) ?_; intro gb360 w3 BK360 n0_ GW360 GE360; clear HB; have HB := n0_; clear n0_; obtain ⟨hcz4_0, hcz4_1, hcz4_2⟩ := cz3_ BK360.out; obtain ⟨hfz4_0, hfz4_1, hfz4_2⟩ := fz3_ BK360.out))
  go_ret
  exact rt_
 rw [if_neg c2] at H
 have c2b0 : decide ((l0_1.length : Int) ≤ 30) = false := decide_eq_false c2
 have c2b1 : decide (l0_1.length ≤ 30) = false := decide_eq_false (by omega)
 clear c2
 obtain rfl := Option.some.inj H
 go_enter Tryd.func12, Tryd.ntmps12
 go_wp2_with (first | ((with_reducible refine gate_dst (N := 1) rfl ?_); (try (refine gate_guard (by rfl) ?_; dsimp only)); refine bx_ (w := w) (N := 1) (cs := #[.int .i64 a0_0, .slice A0_1 l0_1.length c0_1, .slice A0_2 l0_2.length c0_2]) (t := 26) ?_; intro gb360 w5 BK360 n0_ GW360 GE360; clear HB; have HB := n0_; clear n0_; obtain ⟨hcz6_0, hcz6_1, hcz6_2⟩ := cz3_ BK360.out; obtain ⟨hfz6_0, hfz6_1, hfz6_2⟩ := fz3_ BK360.out))
 go_ret
 exact rt_
mutual
def computusref17_Identifier.j0 : Nat → ByteArray → Bool → Option (Bool)
 | 0, _, _ => none
 | k + 1, x0, x12 => if x12 = true then (some false) else (computusref17_Identifier.l0 k x0 0)
def computusref17_Identifier.l0 : Nat → ByteArray → Int → Option (Bool)
 | 0, _, _ => none
 | k + 1, x0, x3 => if x3 < (x0.size : Int) then (if 0 ≤ x3 then (if (bt x0 x3) ≥ 97 then (computusref17_Identifier.j2 k x0 x3 (bt x0 x3) (decide ((bt x0 x3) ≤ 122))) else (computusref17_Identifier.j2 k x0 x3 (bt x0 x3) false)) else (none)) else (some true)
def computusref17_Identifier.j2 : Nat → ByteArray → Int → Int → Bool → Option (Bool)
 | 0, _, _, _, _ => none
 | k + 1, x0, x3, x4, x27 => if x27 = true then (computusref17_Identifier.l0 k x0 (wrap64 (x3 + 1))) else (if x4 ≥ 48 then (if x4 ≤ 57 then (computusref17_Identifier.j3 k x0 x3 x4 (decide (x3 > 0))) else (computusref17_Identifier.j3 k x0 x3 x4 false)) else (computusref17_Identifier.j3 k x0 x3 x4 false))
def computusref17_Identifier.j3 : Nat → ByteArray → Int → Int → Bool → Option (Bool)
 | 0, _, _, _, _ => none
 | k + 1, x0, x3, x4, x37 => if x37 = true then (computusref17_Identifier.l0 k x0 (wrap64 (x3 + 1))) else (if x4 = 45 then (if x3 = 0 then (some false) else (if x3 = (wrap64 ((x0.size : Int) - 1)) then (some false) else (if 0 ≤ (wrap64 (x3 - 1)) then (if (wrap64 (x3 - 1)) < (x0.size : Int) then (if (bt x0 (wrap64 (x3 - 1))) = 45 then (some false) else (computusref17_Identifier.l0 k x0 (wrap64 (x3 + 1)))) else (none)) else (none)))) else (some false))
end
def computusref17_Identifier.f (k : Nat) (a0 : ByteArray) : Option (Bool) := if (a0.size : Int) < 1 then (computusref17_Identifier.j0 k a0 true) else (computusref17_Identifier.j0 k a0 (decide ((a0.size : Int) > 40)))
theorem computusref17_Identifier.calls (k : Nat) (a0 : ByteArray) (r : Bool) (w : World) (h : computusref17_Identifier.f k a0 = some r) :
  Calls Tryd.prog 26 #[.string a0] w fun e w' => e = .returned (.bool r) ∧ Drawn0 w w' := by
 have H := h
 clear h
 unfold computusref17_Identifier.f at H
 have HC2 := am_ H
 clear H
 go_enter Tryd.func26, Tryd.ntmps26
 go_upto_region 1 with (fail)
 go_cut [12] (fun v12 wc => ∃ (kq : Nat) (x12_1 : Bool), v12 = .bool x12_1 ∧ Aside0 (computusref17_Identifier.j0 kq a0 x12_1 = some r) ∧ Aside0 (kq ≤ k) ∧ Drawn0 w wc)
 case first =>
  have H := HC2.out
  clear HC2
  by_cases c3 : (a0.size : Int) < 1
  ·rw [if_pos c3] at H
   have c3b0 : decide ((a0.size : Int) < 1) = true := decide_eq_true c3
   have c3b1 : decide (a0.size < 1) = true := decide_eq_true (by omega)
   clear c3
   (first | rw [c3b0] | (simp only [i64_w, i32_w]; rw [c3b0]) | skip)
   have H' := am_ H
   clear H
   go_wp2
   go_meet
   case rel => exact ⟨_, (true), rs_, H', ⟨by first | omega | exact Nat.le_refl _⟩, by repeat (first | exact Drawn0.refl _ | apply Drawn0.step)⟩
  rw [if_neg c3] at H
  have c3b0 : decide ((a0.size : Int) < 1) = false := decide_eq_false c3
  have c3b1 : decide (a0.size < 1) = false := decide_eq_false (by omega)
  clear c3
  (first | rw [c3b0] | (simp only [i64_w, i32_w]; rw [c3b0]) | skip)
  have H' := am_ H
  clear H
  go_wp2
  go_meet
  case rel => exact ⟨_, (decide ((a0.size : Int) > 40)), rs_, H', ⟨by first | omega | exact Nat.le_refl _⟩, by repeat (first | exact Drawn0.refl _ | apply Drawn0.step)⟩
 case rest =>
  clear HC2
  obtain ⟨kq, x12_1, rfl, HA, HJ1, ⟨mc1, rfl⟩⟩ := hcut
  cases kq with
  | zero => exact absurd HA.out (by simp [computusref17_Identifier.j0])
  | succ kj1 =>
   have H := HA.out
   clear HA
   simp only [computusref17_Identifier.j0] at H
   by_cases c4 : x12_1 = true
   ·subst c4
    replace H := it_ H
    obtain rfl := Option.some.inj H
    go_wp2
    go_ret
    exact ⟨by first | rfl | (simp; done) | (simp [*]; done), by repeat (first | exact Drawn0.refl _ | apply Drawn0.step)⟩
   replace c4 := Bool.eq_false_iff.mpr c4
   subst c4
   replace H := if_ H
   have H' := am_ H
   clear H
   go_wp2
   go_loopg [3] kj1 (fun kq v3 w' => ∃ (x3_2 : Int), v3 = .int .i64 x3_2 ∧ Aside0 (computusref17_Identifier.l0 kq a0 x3_2 = some r) ∧ Aside0 (kq ≤ kj1) ∧ Drawn0 w w')
   case atStart => exact ⟨(0), rs_, H', ⟨Nat.le_refl _⟩, by repeat (first | exact Drawn0.refl _ | apply Drawn0.step)⟩
   case round =>
    clear H'
    obtain ⟨x3_2, rfl, HA, HK2, ⟨m2, rfl⟩⟩ := hrel
    cases gk with
    | zero => exact absurd HA.out (by simp [computusref17_Identifier.l0])
    | succ k2 =>
     have H := HA.out
     clear HA
     simp only [computusref17_Identifier.l0] at H
     by_cases c5 : x3_2 < (a0.size : Int)
     rotate_left
     ·rw [if_neg c5] at H
      have c5b0 : decide (x3_2 < (a0.size : Int)) = false := decide_eq_false c5
      clear c5
      obtain rfl := Option.some.inj H
      go_wp2
      go_ret
      exact ⟨by first | rfl | (simp; done) | (simp [*]; done), by repeat (first | exact Drawn0.refl _ | apply Drawn0.step)⟩
     rw [if_pos c5] at H
     have c5b0 : decide (x3_2 < (a0.size : Int)) = true := decide_eq_true c5
     clear c5
     by_cases c6 : 0 ≤ x3_2
     rotate_left
     ·rw [if_neg c6] at H
      exact absurd H (by simp)
     rw [if_pos c6] at H
     have c6b0 : decide (0 ≤ x3_2) = true := decide_eq_true c6
     clear c6
     have HC8 := am_ H
     clear H
     have p7 : 0 ≤ (x3_2 : Int) := of_decide_eq_true as_
     have q7 : x3_2 < (a0.size : Int) := of_decide_eq_true as_
     have hx7 := bt_at a0 x3_2
     replace p7 := eq_true p7
     replace q7 := eq_true q7
     go_upto_region 7 with (fail)
     go_cut [27] (fun v27 wc => ∃ (kq : Nat) (x27_7 : Bool), v27 = .bool x27_7 ∧ Aside0 (computusref17_Identifier.j2 kq a0 x3_2 (bt a0 x3_2) x27_7 = some r) ∧ Aside0 (kq ≤ k2) ∧ Drawn0 w wc)
     case first =>
      have H := HC8.out
      clear HC8
      by_cases c9 : (bt a0 x3_2) ≥ 97
      rotate_left
      ·rw [if_neg c9] at H
       have c9b0 : decide (97 ≤ (bt a0 x3_2)) = false := decide_eq_false c9
       clear c9
       (first | rw [c9b0] | (simp only [i64_w, i32_w]; rw [c9b0]) | skip)
       have H' := am_ H
       clear H
       go_wp2
       go_meet
       case rel => exact ⟨_, (false), rs_, H', ⟨by have := HJ1.out; have := HK2.out; first | omega | exact Nat.le_refl _⟩, by repeat (first | exact Drawn0.refl _ | apply Drawn0.step)⟩
      rw [if_pos c9] at H
      have c9b0 : decide (97 ≤ (bt a0 x3_2)) = true := decide_eq_true c9
      clear c9
      (first | rw [c9b0] | (simp only [i64_w, i32_w]; rw [c9b0]) | skip)
      have H' := am_ H
      clear H
      go_wp2
      go_meet
      case rel => exact ⟨_, (decide ((bt a0 x3_2) ≤ 122)), rs_, H', ⟨by have := HJ1.out; have := HK2.out; first | omega | exact Nat.le_refl _⟩, by repeat (first | exact Drawn0.refl _ | apply Drawn0.step)⟩
     case rest =>
      clear HC8
      obtain ⟨kq, x27_7, rfl, HA, HJ7, ⟨mc7, rfl⟩⟩ := hcut
      cases kq with
      | zero => exact absurd HA.out (by simp [computusref17_Identifier.j2])
      | succ kj7 =>
       have H := HA.out
       clear HA
       simp only [computusref17_Identifier.j2] at H
       by_cases c10 : x27_7 = true
       ·subst c10
        replace H := it_ H
        have H' := am_ H
        clear H
        go_wp2
        go_roundg kj7
        case measure => have := HJ1.out; have := HK2.out; have := HJ7.out; omega
        case rel => exact ⟨(wrap64 (x3_2 + 1)), rs_, H', ⟨by have := HJ1.out; have := HK2.out; have := HJ7.out; omega⟩, by repeat (first | exact Drawn0.refl _ | apply Drawn0.step)⟩
       replace c10 := Bool.eq_false_iff.mpr c10
       subst c10
       replace H := if_ H
       have HC11 := am_ H
       clear H
       go_upto_region 8 with (fail)
       go_cut [37] (fun v37 wc => ∃ (kq : Nat) (x37_10 : Bool), v37 = .bool x37_10 ∧ Aside0 (computusref17_Identifier.j3 kq a0 x3_2 (bt a0 x3_2) x37_10 = some r) ∧ Aside0 (kq ≤ kj7) ∧ Drawn0 w wc)
       case first =>
        have H := HC11.out
        clear HC11
        by_cases c12 : (bt a0 x3_2) ≥ 48
        rotate_left
        ·rw [if_neg c12] at H
         have c12b0 : decide (48 ≤ (bt a0 x3_2)) = false := decide_eq_false c12
         clear c12
         (first | rw [c12b0] | (simp only [i64_w, i32_w]; rw [c12b0]) | skip)
         have H' := am_ H
         clear H
         go_wp2
         go_meet
         case rel => exact ⟨_, (false), rs_, H', ⟨by have := HJ1.out; have := HK2.out; have := HJ7.out; first | omega | exact Nat.le_refl _⟩, by repeat (first | exact Drawn0.refl _ | apply Drawn0.step)⟩
        rw [if_pos c12] at H
        have c12b0 : decide (48 ≤ (bt a0 x3_2)) = true := decide_eq_true c12
        clear c12
        (first | rw [c12b0] | (simp only [i64_w, i32_w]; rw [c12b0]) | skip)
        by_cases c13 : (bt a0 x3_2) ≤ 57
        rotate_left
        ·rw [if_neg c13] at H
         have c13b0 : decide ((bt a0 x3_2) ≤ 57) = false := decide_eq_false c13
         clear c13
         have H' := am_ H
         clear H
         go_wp2
         go_meet
         case rel => exact ⟨_, (false), rs_, H', ⟨by have := HJ1.out; have := HK2.out; have := HJ7.out; first | omega | exact Nat.le_refl _⟩, by repeat (first | exact Drawn0.refl _ | apply Drawn0.step)⟩
        rw [if_pos c13] at H
        have c13b0 : decide ((bt a0 x3_2) ≤ 57) = true := decide_eq_true c13
        clear c13
        have H' := am_ H
        clear H
        go_wp2
        go_meet
        case rel => exact ⟨_, (decide (x3_2 > 0)), rs_, H', ⟨by have := HJ1.out; have := HK2.out; have := HJ7.out; first | omega | exact Nat.le_refl _⟩, by repeat (first | exact Drawn0.refl _ | apply Drawn0.step)⟩
       case rest =>
        clear HC11
        obtain ⟨kq, x37_10, rfl, HA, HJ10, ⟨mc10, rfl⟩⟩ := hcut
        cases kq with
        | zero => exact absurd HA.out (by simp [computusref17_Identifier.j3])
        | succ kj10 =>
         have H := HA.out
         clear HA
         simp only [computusref17_Identifier.j3] at H
         by_cases c14 : x37_10 = true
         ·subst c14
          replace H := it_ H
          have H' := am_ H
          clear H
          go_wp2
          go_roundg kj10
          case measure => have := HJ1.out; have := HK2.out; have := HJ7.out; have := HJ10.out; omega
          case rel => exact ⟨(wrap64 (x3_2 + 1)), rs_, H', ⟨by have := HJ1.out; have := HK2.out; have := HJ7.out; have := HJ10.out; omega⟩, by repeat (first | exact Drawn0.refl _ | apply Drawn0.step)⟩
         replace c14 := Bool.eq_false_iff.mpr c14
         subst c14
         replace H := if_ H
         by_cases c15 : (bt a0 x3_2) = 45
         rotate_left
         ·rw [if_neg c15] at H
          have c15b0 : ((bt a0 x3_2) == 45) = false := beq_eq_false_iff_ne.mpr c15
          have c15b1 : ((bt a0 x3_2) != 45) = true := bne_iff_ne.mpr c15
          obtain rfl := Option.some.inj H
          go_wp2
          go_ret
          exact ⟨by first | rfl | (simp; done) | (simp [*]; done), by repeat (first | exact Drawn0.refl _ | apply Drawn0.step)⟩
         rw [if_pos c15] at H
         have c15b0 : ((bt a0 x3_2) == 45) = true := beq_iff_eq.mpr c15
         have c15b1 : ((bt a0 x3_2) != 45) = false := bne_eq_false_iff_eq.mpr c15
         clear c15
         by_cases c16 : x3_2 = 0
         ·rw [if_pos c16] at H
          have c16b0 : (x3_2 == 0) = true := beq_iff_eq.mpr c16
          have c16b1 : (x3_2 != 0) = false := bne_eq_false_iff_eq.mpr c16
          clear c16
          obtain rfl := Option.some.inj H
          go_wp2
          go_ret
          exact ⟨by first | rfl | (simp; done) | (simp [*]; done), by repeat (first | exact Drawn0.refl _ | apply Drawn0.step)⟩
         rw [if_neg c16] at H
         have c16b0 : (x3_2 == 0) = false := beq_eq_false_iff_ne.mpr c16
         have c16b1 : (x3_2 != 0) = true := bne_iff_ne.mpr c16
         by_cases c17 : x3_2 = (wrap64 ((a0.size : Int) - 1))
         ·rw [if_pos c17] at H
          have c17b0 : (x3_2 == (wrap64 ((a0.size : Int) - 1))) = true := beq_iff_eq.mpr c17
          have c17b1 : (x3_2 != (wrap64 ((a0.size : Int) - 1))) = false := bne_eq_false_iff_eq.mpr c17
          clear c17
          obtain rfl := Option.some.inj H
          go_wp2
          go_ret
          exact ⟨by first | rfl | (simp; done) | (simp [*]; done), by repeat (first | exact Drawn0.refl _ | apply Drawn0.step)⟩
         rw [if_neg c17] at H
         have c17b0 : (x3_2 == (wrap64 ((a0.size : Int) - 1))) = false := beq_eq_false_iff_ne.mpr c17
         have c17b1 : (x3_2 != (wrap64 ((a0.size : Int) - 1))) = true := bne_iff_ne.mpr c17
         obtain ⟨ji18, hji18⟩ : ∃ j_ : Int, (wrap64 (x3_2 - 1)) = j_ := ⟨_, rfl⟩
         replace H : (if 0 ≤ (ji18) then (if (ji18) < (a0.size : Int) then (if (bt a0 (ji18)) = 45 then (some false) else (computusref17_Identifier.l0 kj10 a0 (wrap64 (x3_2 + 1)))) else (none)) else (none)) = some r := by first | (rw [hji18] at H; exact H) | (simp only [hji18] at H ⊢; exact H)
         have hji18w : (IntKind.i64.wrap (x3_2 - 1)) = ji18 := (i64_w _).trans hji18
         by_cases c19 : 0 ≤ (ji18)
         rotate_left
         ·rw [if_neg c19] at H
          exact absurd H (by simp)
         rw [if_pos c19] at H
         have c19b0 : decide (0 ≤ (ji18)) = true := decide_eq_true c19
         clear c19
         by_cases c20 : (ji18) < (a0.size : Int)
         rotate_left
         ·rw [if_neg c20] at H
          exact absurd H (by simp)
         rw [if_pos c20] at H
         have c20b0 : decide ((ji18) < (a0.size : Int)) = true := decide_eq_true c20
         clear c20
         by_cases c22 : (bt a0 (ji18)) = 45
         ·rw [if_pos c22] at H
          have c22b0 : ((bt a0 (ji18)) == 45) = true := beq_iff_eq.mpr c22
          have c22b1 : ((bt a0 (ji18)) != 45) = false := bne_eq_false_iff_eq.mpr c22
          clear c22
          obtain rfl := Option.some.inj H
          have p21 : 0 ≤ ((ji18) : Int) := of_decide_eq_true as_
          have q21 : (ji18) < (a0.size : Int) := of_decide_eq_true as_
          have hx21 := bt_at a0 (ji18)
          replace p21 := eq_true p21
          replace q21 := eq_true q21
          go_wp2
          go_ret
          exact ⟨by first | rfl | (simp; done) | (simp only [← hji18] <;> (first | rfl | simp)) | (simp [*]; done), by repeat (first | exact Drawn0.refl _ | apply Drawn0.step)⟩
         rw [if_neg c22] at H
         have c22b0 : ((bt a0 (ji18)) == 45) = false := beq_eq_false_iff_ne.mpr c22
         have c22b1 : ((bt a0 (ji18)) != 45) = true := bne_iff_ne.mpr c22
         have H' := am_ H
         clear H
         have p21 : 0 ≤ ((ji18) : Int) := of_decide_eq_true as_
         have q21 : (ji18) < (a0.size : Int) := of_decide_eq_true as_
         have hx21 := bt_at a0 (ji18)
         replace p21 := eq_true p21
         replace q21 := eq_true q21
         go_wp2
         go_roundg kj10
         case measure => have := HJ1.out; have := HK2.out; have := HJ7.out; have := HJ10.out; omega
         case rel => exact ⟨(wrap64 (x3_2 + 1)), rs_, H', ⟨by have := HJ1.out; have := HK2.out; have := HJ7.out; have := HJ10.out; omega⟩, by repeat (first | exact Drawn0.refl _ | apply Drawn0.step)⟩
def computusref26_In.f (a0 : Int) : Option (Bool) := if a0 ≥ (-9999999999) then (some (decide (a0 ≤ 9999999999))) else (some false)
theorem computusref26_In.calls (a0 : Int) (r : Bool) (w : World) (h : computusref26_In.f a0 = some r) :
  Calls Tryd.prog 27 #[.int .i64 a0] w fun e w' => e = .returned (.bool r) ∧ Drawn0 w w' := by
 have H := h
 clear h
 unfold computusref26_In.f at H
 by_cases c2 : a0 ≥ (-9999999999)
 ·rw [if_pos c2] at H
  have c2b0 : decide ((-9999999999) ≤ a0) = true := decide_eq_true c2
  clear c2
  obtain rfl := Option.some.inj H
  go_enter Tryd.func27, Tryd.ntmps27
  go_wp2
  go_ret
  exact ⟨by first | rfl | (simp; done) | (simp [*]; done), by repeat (first | exact Drawn0.refl _ | apply Drawn0.step)⟩
 rw [if_neg c2] at H
 have c2b0 : decide ((-9999999999) ≤ a0) = false := decide_eq_false c2
 clear c2
 obtain rfl := Option.some.inj H
 go_enter Tryd.func27, Tryd.ntmps27
 go_wp2
 go_ret
 exact ⟨by first | rfl | (simp; done) | (simp [*]; done), by repeat (first | exact Drawn0.refl _ | apply Drawn0.step)⟩
def computusref26_printableAnchor.j0 : Nat → Bool → Int → Int → Int → Int → Int → Int → Option (Bool)
 | 0, _, _, _, _, _, _, _ => none
 | k + 1, x24, x362000, x362001, x362002, x362003, x362004, x362005 => if x24 = true then (some false) else (if x362000 = 1 then (if x362003 = 0 then (if x362004 = 0 then (some (x362005 == 0)) else (some false)) else (some false)) else (if x362000 = 2 then (if x362001 = 0 then (if x362002 = 0 then (if x362004 = 0 then (some (x362005 == 0)) else (some false)) else (some false)) else (some false)) else (if x362000 = 3 then (if x362003 = 0 then (if x362004 ≥ 0 then (some (decide (x362004 ≤ 6))) else (some false)) else (some false)) else (some false))))
def computusref26_printableAnchor.f (k : Nat) (a0_0 : Int) (a0_1 : Int) (a0_2 : Int) (a0_3 : Int) (a0_4 : Int) (a0_5 : Int) : Option (Bool) := (computusref26_In.f a0_1).bind fun t362 => (if t362 = true then ((computusref26_In.f a0_2).bind fun t363 => (if t363 = true then ((computusref26_In.f a0_3).bind fun t364 => (if t364 = true then ((computusref26_In.f a0_5).bind fun t365 => (computusref26_printableAnchor.j0 k (!t365) a0_0 a0_1 a0_2 a0_3 a0_4 a0_5)) else (computusref26_printableAnchor.j0 k true a0_0 a0_1 a0_2 a0_3 a0_4 a0_5))) else (computusref26_printableAnchor.j0 k true a0_0 a0_1 a0_2 a0_3 a0_4 a0_5))) else (computusref26_printableAnchor.j0 k true a0_0 a0_1 a0_2 a0_3 a0_4 a0_5))
theorem computusref26_printableAnchor.calls (k : Nat) (a0_0 : Int) (a0_1 : Int) (a0_2 : Int) (a0_3 : Int) (a0_4 : Int) (a0_5 : Int) (r : Bool) (w : World) (h : computusref26_printableAnchor.f k a0_0 a0_1 a0_2 a0_3 a0_4 a0_5 = some r) :
  Calls Tryd.prog 28 #[.agg #[.int .i64 a0_0, .int .i64 a0_1, .int .i64 a0_2, .int .i64 a0_3, .int .i64 a0_4, .int .i64 a0_5]] w fun e w' => e = .returned (.bool r) ∧ Below w.heap.size w w' := by
 have hu39 := Tryd.underlying39
 have HB := am_ (Below.refl w.heap.size w)
 have H := h
 clear h
 unfold computusref26_printableAnchor.f at H
 have HC2 := am_ H
 clear H
 go_enter Tryd.func28, Tryd.ntmps28
 go_upto_region 1 with (first | ((with_reducible refine gate_dst (N := 1) rfl ?_); refine bx_ (w := w) (N := 1) (cs := #[.int .i64 a0_0, .int .i64 a0_1, .int .i64 a0_2, .int .i64 a0_3, .int .i64 a0_4, .int .i64 a0_5]) (t := 39) ?_; intro gb361 w3 BK361 n0_ GW361 GE361; clear HB; have HB := n0_; clear n0_))
 (try simp only [Act.put, sA_, sZ_, sS_])
 go_cut [24] (fun v24 wc => ∃ (kq : Nat) (x24_1 : Bool), v24 = .bool x24_1 ∧ Aside0 (computusref26_printableAnchor.j0 kq x24_1 a0_0 a0_1 a0_2 a0_3 a0_4 a0_5 = some r) ∧ Aside0 (kq ≤ k) ∧ Aside0 (wc.heap[gb361]? = some (.cells #[.int .i64 a0_0, .int .i64 a0_1, .int .i64 a0_2, .int .i64 a0_3, .int .i64 a0_4, .int .i64 a0_5] 39 (0, 0))) ∧ Aside0 (Below w.heap.size w wc))
 case first =>
  have H := HC2.out
  clear HC2
  obtain ⟨t362, A4, H⟩ := bs_ H
  by_cases c5 : t362 = true
  rotate_left
  ·replace c5 := Bool.eq_false_iff.mpr c5
   subst c5
   replace H := if_ H
   have H' := am_ H
   clear H
   obtain ⟨hcz14_0, hcz14_1, hcz14_2, hcz14_3, hcz14_4, hcz14_5⟩ := cz6_ BK361.out
   obtain ⟨hfz14_0, hfz14_1, hfz14_2, hfz14_3, hfz14_4, hfz14_5⟩ := fz6_ BK361.out
   go_wp2_with (first | ((with_reducible refine gate_callee (f := 27) rfl ?_); refine goesL_ (some 5) rfl rfl Tryd.func27 (by kernel_rfl) rfl #[.int .i64 a0_1] rfl (by (try simp only [List.map_toArray, List.map_cons, List.map_nil]); first | done | rfl | (simp only [List.length_drop, List.length_take]; rfl)) ?_; (with_reducible refine (computusref26_In.calls a0_1 false _ A4.out).mono ?_); rintro e w' ⟨rfl, ⟨nd, rfl⟩⟩; refine ⟨_, rfl, ?_⟩))
   go_meet
   case rel => exact ⟨_, (true), rs_, H', ⟨by first | omega | exact Nat.le_refl _⟩, ⟨bk_ BK361.out⟩, ⟨bh_⟩⟩
  subst c5
  replace H := it_ H
  obtain ⟨t363, A6, H⟩ := bs_ H
  by_cases c7 : t363 = true
  rotate_left
  ·replace c7 := Bool.eq_false_iff.mpr c7
   subst c7
   replace H := if_ H
   have H' := am_ H
   clear H
   obtain ⟨hcz13_0, hcz13_1, hcz13_2, hcz13_3, hcz13_4, hcz13_5⟩ := cz6_ BK361.out
   obtain ⟨hfz13_0, hfz13_1, hfz13_2, hfz13_3, hfz13_4, hfz13_5⟩ := fz6_ BK361.out
   go_wp2_with (first | ((with_reducible refine gate_callee (f := 27) rfl ?_); refine goesL_ (some 5) rfl rfl Tryd.func27 (by kernel_rfl) rfl #[.int .i64 a0_1] rfl (by (try simp only [List.map_toArray, List.map_cons, List.map_nil]); first | done | rfl | (simp only [List.length_drop, List.length_take]; rfl)) ?_; (with_reducible refine (computusref26_In.calls a0_1 true _ A4.out).mono ?_); rintro e w' ⟨rfl, ⟨nd, rfl⟩⟩; refine ⟨_, rfl, ?_⟩) | (go_at_call 27; (with_reducible refine (computusref26_In.calls a0_2 false _ A6.out).mono ?_); rintro e w' ⟨rfl, ⟨nd, rfl⟩⟩))
   go_meet
   case rel => exact ⟨_, (true), rs_, H', ⟨by first | omega | exact Nat.le_refl _⟩, ⟨bk_ BK361.out⟩, ⟨bh_⟩⟩
  subst c7
  replace H := it_ H
  obtain ⟨t364, A8, H⟩ := bs_ H
  by_cases c9 : t364 = true
  rotate_left
  ·replace c9 := Bool.eq_false_iff.mpr c9
   subst c9
   replace H := if_ H
   have H' := am_ H
   clear H
   obtain ⟨hcz12_0, hcz12_1, hcz12_2, hcz12_3, hcz12_4, hcz12_5⟩ := cz6_ BK361.out
   obtain ⟨hfz12_0, hfz12_1, hfz12_2, hfz12_3, hfz12_4, hfz12_5⟩ := fz6_ BK361.out
   go_wp2_with (first | ((with_reducible refine gate_callee (f := 27) rfl ?_); refine goesL_ (some 5) rfl rfl Tryd.func27 (by kernel_rfl) rfl #[.int .i64 a0_1] rfl (by (try simp only [List.map_toArray, List.map_cons, List.map_nil]); first | done | rfl | (simp only [List.length_drop, List.length_take]; rfl)) ?_; (with_reducible refine (computusref26_In.calls a0_1 true _ A4.out).mono ?_); rintro e w' ⟨rfl, ⟨nd, rfl⟩⟩; refine ⟨_, rfl, ?_⟩) | (go_at_call 27; (with_reducible refine (computusref26_In.calls a0_2 true _ A6.out).mono ?_); rintro e w' ⟨rfl, ⟨nd, rfl⟩⟩) | (go_at_call 27; (with_reducible refine (computusref26_In.calls a0_3 false _ A8.out).mono ?_); rintro e w' ⟨rfl, ⟨nd, rfl⟩⟩))
   go_meet
   case rel => exact ⟨_, (true), rs_, H', ⟨by first | omega | exact Nat.le_refl _⟩, ⟨bk_ BK361.out⟩, ⟨bh_⟩⟩
  subst c9
  replace H := it_ H
  obtain ⟨t365, A10, H⟩ := bs_ H
  have H' := am_ H
  clear H
  obtain ⟨hcz11_0, hcz11_1, hcz11_2, hcz11_3, hcz11_4, hcz11_5⟩ := cz6_ BK361.out
  obtain ⟨hfz11_0, hfz11_1, hfz11_2, hfz11_3, hfz11_4, hfz11_5⟩ := fz6_ BK361.out
  go_wp2_with (first | ((with_reducible refine gate_callee (f := 27) rfl ?_); refine goesL_ (some 5) rfl rfl Tryd.func27 (by kernel_rfl) rfl #[.int .i64 a0_1] rfl (by (try simp only [List.map_toArray, List.map_cons, List.map_nil]); first | done | rfl | (simp only [List.length_drop, List.length_take]; rfl)) ?_; (with_reducible refine (computusref26_In.calls a0_1 true _ A4.out).mono ?_); rintro e w' ⟨rfl, ⟨nd, rfl⟩⟩; refine ⟨_, rfl, ?_⟩) | (go_at_call 27; (with_reducible refine (computusref26_In.calls a0_2 true _ A6.out).mono ?_); rintro e w' ⟨rfl, ⟨nd, rfl⟩⟩) | (go_at_call 27; (with_reducible refine (computusref26_In.calls a0_3 true _ A8.out).mono ?_); rintro e w' ⟨rfl, ⟨nd, rfl⟩⟩) | (go_at_call 27; (with_reducible refine (computusref26_In.calls a0_5 t365 _ A10.out).mono ?_); rintro e w' ⟨rfl, ⟨nd, rfl⟩⟩))
  go_meet
  case rel => exact ⟨_, (!t365), rs_, H', ⟨by first | omega | exact Nat.le_refl _⟩, ⟨bk_ BK361.out⟩, ⟨bh_⟩⟩
 case rest =>
  clear HC2
  obtain ⟨kq, x24_1, rfl, HA, HJ1, BK361, HB⟩ := hcut
  cases kq with
  | zero => exact absurd HA.out (by simp [computusref26_printableAnchor.j0])
  | succ kj1 =>
   have H := HA.out
   clear HA
   simp only [computusref26_printableAnchor.j0] at H
   by_cases c15 : x24_1 = true
   ·subst c15
    replace H := it_ H
    obtain rfl := Option.some.inj H
    go_wp2
    go_ret
    exact rt_
   replace c15 := Bool.eq_false_iff.mpr c15
   subst c15
   replace H := if_ H
   by_cases c16 : a0_0 = 1
   ·rw [if_pos c16] at H
    have c16b0 : (a0_0 == 1) = true := beq_iff_eq.mpr c16
    have c16b1 : (a0_0 != 1) = false := bne_eq_false_iff_eq.mpr c16
    clear c16
    by_cases c17 : a0_3 = 0
    rotate_left
    ·rw [if_neg c17] at H
     have c17b0 : (a0_3 == 0) = false := beq_eq_false_iff_ne.mpr c17
     have c17b1 : (a0_3 != 0) = true := bne_iff_ne.mpr c17
     obtain rfl := Option.some.inj H
     obtain ⟨hcz21_0, hcz21_1, hcz21_2, hcz21_3, hcz21_4, hcz21_5⟩ := cz6_ BK361.out
     obtain ⟨hfz21_0, hfz21_1, hfz21_2, hfz21_3, hfz21_4, hfz21_5⟩ := fz6_ BK361.out
     go_wp2
     go_ret
     exact rt_
    rw [if_pos c17] at H
    have c17b0 : (a0_3 == 0) = true := beq_iff_eq.mpr c17
    have c17b1 : (a0_3 != 0) = false := bne_eq_false_iff_eq.mpr c17
    clear c17
    by_cases c18 : a0_4 = 0
    rotate_left
    ·rw [if_neg c18] at H
     have c18b0 : (a0_4 == 0) = false := beq_eq_false_iff_ne.mpr c18
     have c18b1 : (a0_4 != 0) = true := bne_iff_ne.mpr c18
     obtain rfl := Option.some.inj H
     obtain ⟨hcz20_0, hcz20_1, hcz20_2, hcz20_3, hcz20_4, hcz20_5⟩ := cz6_ BK361.out
     obtain ⟨hfz20_0, hfz20_1, hfz20_2, hfz20_3, hfz20_4, hfz20_5⟩ := fz6_ BK361.out
     go_wp2
     go_ret
     exact rt_
    rw [if_pos c18] at H
    have c18b0 : (a0_4 == 0) = true := beq_iff_eq.mpr c18
    have c18b1 : (a0_4 != 0) = false := bne_eq_false_iff_eq.mpr c18
    clear c18
    obtain rfl := Option.some.inj H
    obtain ⟨hcz19_0, hcz19_1, hcz19_2, hcz19_3, hcz19_4, hcz19_5⟩ := cz6_ BK361.out
    obtain ⟨hfz19_0, hfz19_1, hfz19_2, hfz19_3, hfz19_4, hfz19_5⟩ := fz6_ BK361.out
    go_wp2
    go_ret
    exact rt_
   rw [if_neg c16] at H
   have c16b0 : (a0_0 == 1) = false := beq_eq_false_iff_ne.mpr c16
   have c16b1 : (a0_0 != 1) = true := bne_iff_ne.mpr c16
   by_cases c22 : a0_0 = 2
   rotate_left
   ·rw [if_neg c22] at H
    have c22b0 : (a0_0 == 2) = false := beq_eq_false_iff_ne.mpr c22
    have c22b1 : (a0_0 != 2) = true := bne_iff_ne.mpr c22
    by_cases c30 : a0_0 = 3
    rotate_left
    ·rw [if_neg c30] at H
     have c30b0 : (a0_0 == 3) = false := beq_eq_false_iff_ne.mpr c30
     have c30b1 : (a0_0 != 3) = true := bne_iff_ne.mpr c30
     obtain rfl := Option.some.inj H
     obtain ⟨hcz36_0, hcz36_1, hcz36_2, hcz36_3, hcz36_4, hcz36_5⟩ := cz6_ BK361.out
     obtain ⟨hfz36_0, hfz36_1, hfz36_2, hfz36_3, hfz36_4, hfz36_5⟩ := fz6_ BK361.out
     go_wp2
     go_ret
     exact rt_
    rw [if_pos c30] at H
    have c30b0 : (a0_0 == 3) = true := beq_iff_eq.mpr c30
    have c30b1 : (a0_0 != 3) = false := bne_eq_false_iff_eq.mpr c30
    clear c30
    by_cases c31 : a0_3 = 0
    rotate_left
    ·rw [if_neg c31] at H
     have c31b0 : (a0_3 == 0) = false := beq_eq_false_iff_ne.mpr c31
     have c31b1 : (a0_3 != 0) = true := bne_iff_ne.mpr c31
     obtain rfl := Option.some.inj H
     obtain ⟨hcz35_0, hcz35_1, hcz35_2, hcz35_3, hcz35_4, hcz35_5⟩ := cz6_ BK361.out
     obtain ⟨hfz35_0, hfz35_1, hfz35_2, hfz35_3, hfz35_4, hfz35_5⟩ := fz6_ BK361.out
     go_wp2
     go_ret
     exact rt_
    rw [if_pos c31] at H
    have c31b0 : (a0_3 == 0) = true := beq_iff_eq.mpr c31
    have c31b1 : (a0_3 != 0) = false := bne_eq_false_iff_eq.mpr c31
    clear c31
    by_cases c32 : a0_4 ≥ 0
    ·rw [if_pos c32] at H
     have c32b0 : decide (0 ≤ a0_4) = true := decide_eq_true c32
     clear c32
     obtain rfl := Option.some.inj H
     obtain ⟨hcz33_0, hcz33_1, hcz33_2, hcz33_3, hcz33_4, hcz33_5⟩ := cz6_ BK361.out
     obtain ⟨hfz33_0, hfz33_1, hfz33_2, hfz33_3, hfz33_4, hfz33_5⟩ := fz6_ BK361.out
     go_wp2
     go_ret
     exact rt_
    rw [if_neg c32] at H
    have c32b0 : decide (0 ≤ a0_4) = false := decide_eq_false c32
    clear c32
    obtain rfl := Option.some.inj H
    obtain ⟨hcz34_0, hcz34_1, hcz34_2, hcz34_3, hcz34_4, hcz34_5⟩ := cz6_ BK361.out
    obtain ⟨hfz34_0, hfz34_1, hfz34_2, hfz34_3, hfz34_4, hfz34_5⟩ := fz6_ BK361.out
    go_wp2
    go_ret
    exact rt_
   rw [if_pos c22] at H
   have c22b0 : (a0_0 == 2) = true := beq_iff_eq.mpr c22
   have c22b1 : (a0_0 != 2) = false := bne_eq_false_iff_eq.mpr c22
   clear c22
   by_cases c23 : a0_1 = 0
   rotate_left
   ·rw [if_neg c23] at H
    have c23b0 : (a0_1 == 0) = false := beq_eq_false_iff_ne.mpr c23
    have c23b1 : (a0_1 != 0) = true := bne_iff_ne.mpr c23
    obtain rfl := Option.some.inj H
    obtain ⟨hcz29_0, hcz29_1, hcz29_2, hcz29_3, hcz29_4, hcz29_5⟩ := cz6_ BK361.out
    obtain ⟨hfz29_0, hfz29_1, hfz29_2, hfz29_3, hfz29_4, hfz29_5⟩ := fz6_ BK361.out
    go_wp2
    go_ret
    exact rt_
   rw [if_pos c23] at H
   have c23b0 : (a0_1 == 0) = true := beq_iff_eq.mpr c23
   have c23b1 : (a0_1 != 0) = false := bne_eq_false_iff_eq.mpr c23
   clear c23
   by_cases c24 : a0_2 = 0
   rotate_left
   ·rw [if_neg c24] at H
    have c24b0 : (a0_2 == 0) = false := beq_eq_false_iff_ne.mpr c24
    have c24b1 : (a0_2 != 0) = true := bne_iff_ne.mpr c24
    obtain rfl := Option.some.inj H
    obtain ⟨hcz28_0, hcz28_1, hcz28_2, hcz28_3, hcz28_4, hcz28_5⟩ := cz6_ BK361.out
    obtain ⟨hfz28_0, hfz28_1, hfz28_2, hfz28_3, hfz28_4, hfz28_5⟩ := fz6_ BK361.out
    go_wp2
    go_ret
    exact rt_
   rw [if_pos c24] at H
   have c24b0 : (a0_2 == 0) = true := beq_iff_eq.mpr c24
   have c24b1 : (a0_2 != 0) = false := bne_eq_false_iff_eq.mpr c24
   clear c24
   by_cases c25 : a0_4 = 0
   rotate_left
   ·rw [if_neg c25] at H
    have c25b0 : (a0_4 == 0) = false := beq_eq_false_iff_ne.mpr c25
    have c25b1 : (a0_4 != 0) = true := bne_iff_ne.mpr c25
    obtain rfl := Option.some.inj H
    obtain ⟨hcz27_0, hcz27_1, hcz27_2, hcz27_3, hcz27_4, hcz27_5⟩ := cz6_ BK361.out
    obtain ⟨hfz27_0, hfz27_1, hfz27_2, hfz27_3, hfz27_4, hfz27_5⟩ := fz6_ BK361.out
    go_wp2
    go_ret
    exact rt_
   rw [if_pos c25] at H
   have c25b0 : (a0_4 == 0) = true := beq_iff_eq.mpr c25
   have c25b1 : (a0_4 != 0) = false := bne_eq_false_iff_eq.mpr c25
   clear c25
   obtain rfl := Option.some.inj H
   obtain ⟨hcz26_0, hcz26_1, hcz26_2, hcz26_3, hcz26_4, hcz26_5⟩ := cz6_ BK361.out
   obtain ⟨hfz26_0, hfz26_1, hfz26_2, hfz26_3, hfz26_4, hfz26_5⟩ := fz6_ BK361.out
   go_wp2
   go_ret
   exact rt_
mutual
def computusref26_Printable.l0 : Nat → Int → Int → List (S41) → List (S43) → Option (Bool)
 | 0, _, _, _, _ => none
 | k + 1, x3, x367000, x367001, x367002 => if x3 < (x367001.length : Int) then (if 0 ≤ x3 then ((computusref17_Identifier.f k ((rd_T41 x367001 x3).f0)).bind fun t369 => (if t369 = true then ((computusref26_In.f ((rd_T41 x367001 x3).f1)).bind fun t370 => (if t370 = true then ((computusref26_In.f ((rd_T41 x367001 x3).f2)).bind fun t371 => (if t371 = true then ((computusref26_printableAnchor.f k ((rd_T41 x367001 x3).f3.f0) ((rd_T41 x367001 x3).f3.f1) ((rd_T41 x367001 x3).f3.f2) ((rd_T41 x367001 x3).f3.f3) ((rd_T41 x367001 x3).f3.f4) ((rd_T41 x367001 x3).f3.f5)).bind fun t372 => (if t372 = true then (computusref26_Printable.l0 k (wrap64 (x3 + 1)) x367000 x367001 x367002) else (some false))) else (some false))) else (some false))) else (some false))) else (none)) else (computusref26_Printable.l1 k 0 x367000 x367001 x367002)
def computusref26_Printable.l1 : Nat → Int → Int → List (S41) → List (S43) → Option (Bool)
 | 0, _, _, _, _ => none
 | k + 1, x5, x367000, x367001, x367002 => if x5 < (x367002.length : Int) then (if 0 ≤ x5 then ((computusref17_Identifier.f k ((rd_T43 x367002 x5).f0)).bind fun t376 => (if t376 = true then ((computusref26_In.f ((rd_T43 x367002 x5).f1)).bind fun t377 => (if t377 = true then (if ((rd_T43 x367002 x5).f2) < 1 then (some false) else (if ((rd_T43 x367002 x5).f2) > 3 then (some false) else ((computusref26_printableAnchor.f k ((rd_T43 x367002 x5).f3.f0) ((rd_T43 x367002 x5).f3.f1) ((rd_T43 x367002 x5).f3.f2) ((rd_T43 x367002 x5).f3.f3) ((rd_T43 x367002 x5).f3.f4) ((rd_T43 x367002 x5).f3.f5)).bind fun t378 => (if t378 = true then (computusref26_Printable.l1 k (wrap64 (x5 + 1)) x367000 x367001 x367002) else (some false))))) else (some false))) else (some false))) else (none)) else ((computusref26_In.f x367000).bind fun t373 => (some t373))
end
def computusref26_Printable.f (k : Nat) (a0_0 : Int) (l0_1 : List (S41)) (l0_2 : List (S43)) : Option (Bool) := computusref26_Printable.l0 k 0 a0_0 l0_1 l0_2
theorem computusref26_Printable.calls (k : Nat) (a0_0 : Int) (A0_1 : Option Addr) (c0_1 : Nat) (l0_1 : List (S41)) (A0_2 : Option Addr) (c0_2 : Nat) (l0_2 : List (S43)) (r : Bool) (w : World) (hr0_1 : Kd.C k41 w A0_1 l0_1.length l0_1) (hc0_1 : l0_1.length ≤ c0_1) (hr0_2 : Kd.C k43 w A0_2 l0_2.length l0_2) (hc0_2 : l0_2.length ≤ c0_2) (h : computusref26_Printable.f k a0_0 l0_1 l0_2 = some r) :
  Calls Tryd.prog 13 #[.agg #[.int .i64 a0_0, .slice A0_1 l0_1.length c0_1, .slice A0_2 l0_2.length c0_2]] w fun e w' => e = .returned (.bool r) ∧ Below w.heap.size w w' := by
 have hu26 := Tryd.underlying26
 have hu41 := Tryd.underlying41
 have hu39 := Tryd.underlying39
 have hu43 := Tryd.underlying43
 have HR0_1 := am_ hr0_1
 have HC0_1 := am_ hc0_1
 clear hr0_1 hc0_1
 have HR0_2 := am_ hr0_2
 have HC0_2 := am_ hc0_2
 clear hr0_2 hc0_2
 have HB := am_ (Below.refl w.heap.size w)
 have H := h
 clear h
 unfold computusref26_Printable.f at H
 have H' := am_ H
 clear H
 go_enter Tryd.func13, Tryd.ntmps13
 go_wp2_with (first | ((with_reducible refine gate_dst (N := 1) rfl ?_); refine bx_ (w := w) (N := 1) (cs := #[.int .i64 a0_0, .slice A0_1 l0_1.length c0_1, .slice A0_2 l0_2.length c0_2]) (t := 26) ?_; intro gb366 w2 BK366 n0_ GW366 GE366; clear HB; have HB := n0_; clear n0_))
 go_loopg [3] k (fun kq v3 w' => ∃ (x3_1 : Int), v3 = .int .i64 x3_1 ∧ Aside0 (computusref26_Printable.l0 kq x3_1 a0_0 l0_1 l0_2 = some r) ∧ Aside0 (kq ≤ k) ∧ Aside0 (w'.heap[gb366]? = some (.cells #[.int .i64 a0_0, (.slice A0_1 l0_1.length c0_1), (.slice A0_2 l0_2.length c0_2)] 26 (0, 0))) ∧ Aside0 (Below w.heap.size w w'))
 case atStart => exact ⟨(0), rs_, H', ⟨Nat.le_refl _⟩, ⟨bk_ BK366.out⟩, ⟨bh_⟩⟩
 case round =>
  clear H'
  obtain ⟨x3_1, rfl, HA, HK1, BK366, HB⟩ := hrel
  cases gk with
  | zero => exact absurd HA.out (by simp [computusref26_Printable.l0])
  | succ k1 =>
   have H := HA.out
   clear HA
   simp only [computusref26_Printable.l0] at H
   by_cases c3 : x3_1 < (l0_1.length : Int)
   ·rw [if_pos c3] at H
    have c3b0 : decide (x3_1 < (l0_1.length : Int)) = true := decide_eq_true c3
    clear c3
    by_cases c4 : 0 ≤ x3_1
    rotate_left
    ·rw [if_neg c4] at H
     exact absurd H (by simp)
    rw [if_pos c4] at H
    have c4b0 : decide (0 ≤ x3_1) = true := decide_eq_true c4
    clear c4
    obtain ⟨t369, A5, H⟩ := bs_ H
    by_cases c6 : t369 = true
    rotate_left
    ·replace c6 := Bool.eq_false_iff.mpr c6
     subst c6
     replace H := if_ H
     obtain rfl := Option.some.inj H
     obtain ⟨hcz31_0, hcz31_1, hcz31_2⟩ := cz3_ BK366.out
     obtain ⟨hfz31_0, hfz31_1, hfz31_2⟩ := fz3_ BK366.out
     have p367 : 0 ≤ (x3_1 : Int) := of_decide_eq_true as_
     have q367 : x3_1 < (l0_1.length : Int) := of_decide_eq_true as_
     obtain ⟨ad367, e367, hx367_0, hx367_1, hx367_2, hx367_3, hx367_4, hx367_5, hx367_6, hx367_7, hx367_8⟩ := at_T41 HR0_1.out x3_1 p367 q367
     cases e367
     replace hx367_0 := cm_ HB.out hx367_0
     replace hx367_1 := cm_ HB.out hx367_1
     replace hx367_2 := cm_ HB.out hx367_2
     replace hx367_3 := cm_ HB.out hx367_3
     replace hx367_4 := cm_ HB.out hx367_4
     replace hx367_5 := cm_ HB.out hx367_5
     replace hx367_6 := cm_ HB.out hx367_6
     replace hx367_7 := cm_ HB.out hx367_7
     replace hx367_8 := cm_ HB.out hx367_8
     replace p367 := eq_true p367
     replace q367 := eq_true q367
     go_wp2_with (first | ((with_reducible refine gate_dst (N := 4) rfl ?_); refine be_ (N := 4) (cs := #[.string (⟨#[]⟩ : ByteArray), .int .i64 0, .int .i64 0, .int .i64 0, .int .i64 0, .int .i64 0, .int .i64 0, .int .i64 0, .int .i64 0]) (t := 41) ?_; intro gb368 hg w32 hbox hb; have BK368 := am_ (hbox); have GW368 := gw_ (w := w) hg; have GE368 := gw_ (w := w) hg; replace HB := bt_ hb; have NB366_368 := ne_ hg BK366; have NB368_366 := nf_ hg BK366; replace BK366 := bw_ BK366 hb; clear hb hbox hg; have hnb33 := NB368_366.out; have hnc33 := NB366_368.out; have hcz34_0 : w32.cell? ⟨gb368, 0, none⟩ = some (.string (⟨#[]⟩ : ByteArray)) := (blk_cell BK368.out 0).trans rfl; have hcz34_1 : w32.cell? ⟨gb368, 1, none⟩ = some (.int .i64 0) := (blk_cell BK368.out 1).trans rfl; have hcz34_2 : w32.cell? ⟨gb368, 2, none⟩ = some (.int .i64 0) := (blk_cell BK368.out 2).trans rfl; have hcz34_3 : w32.cell? ⟨gb368, 3, none⟩ = some (.int .i64 0) := (blk_cell BK368.out 3).trans rfl; have hcz34_4 : w32.cell? ⟨gb368, 4, none⟩ = some (.int .i64 0) := (blk_cell BK368.out 4).trans rfl; have hcz34_5 : w32.cell? ⟨gb368, 5, none⟩ = some (.int .i64 0) := (blk_cell BK368.out 5).trans rfl; have hcz34_6 : w32.cell? ⟨gb368, 6, none⟩ = some (.int .i64 0) := (blk_cell BK368.out 6).trans rfl; have hcz34_7 : w32.cell? ⟨gb368, 7, none⟩ = some (.int .i64 0) := (blk_cell BK368.out 7).trans rfl; have hcz34_8 : w32.cell? ⟨gb368, 8, none⟩ = some (.int .i64 0) := (blk_cell BK368.out 8).trans rfl; have hfz34_0 := blk_frozen BK368.out 0; have hfz34_1 := blk_frozen BK368.out 1; have hfz34_2 := blk_frozen BK368.out 2; have hfz34_3 := blk_frozen BK368.out 3; have hfz34_4 := blk_frozen BK368.out 4; have hfz34_5 := blk_frozen BK368.out 5; have hfz34_6 := blk_frozen BK368.out 6; have hfz34_7 := blk_frozen BK368.out 7; have hfz34_8 := blk_frozen BK368.out 8) | ((with_reducible refine gate_callee (f := 26) rfl ?_); refine goesL_ (some 21) rfl rfl Tryd.func26 (by kernel_rfl) rfl #[.string ((rd_T41 l0_1 x3_1).f0)] rfl (by (try simp only [List.map_toArray, List.map_cons, List.map_nil]); first | done | rfl | (simp only [List.length_drop, List.length_take]; rfl)) ?_; (with_reducible refine (computusref17_Identifier.calls k1 ((rd_T41 l0_1 x3_1).f0) false _ A5.out).mono ?_); rintro e w' ⟨rfl, ⟨nd, rfl⟩⟩; refine ⟨_, rfl, ?_⟩))
     go_ret
     exact rt_
    subst c6
    replace H := it_ H
    obtain ⟨t370, A7, H⟩ := bs_ H
    by_cases c8 : t370 = true
    rotate_left
    ·replace c8 := Bool.eq_false_iff.mpr c8
     subst c8
     replace H := if_ H
     obtain rfl := Option.some.inj H
     obtain ⟨hcz27_0, hcz27_1, hcz27_2⟩ := cz3_ BK366.out
     obtain ⟨hfz27_0, hfz27_1, hfz27_2⟩ := fz3_ BK366.out
     have p367 : 0 ≤ (x3_1 : Int) := of_decide_eq_true as_
     have q367 : x3_1 < (l0_1.length : Int) := of_decide_eq_true as_
     obtain ⟨ad367, e367, hx367_0, hx367_1, hx367_2, hx367_3, hx367_4, hx367_5, hx367_6, hx367_7, hx367_8⟩ := at_T41 HR0_1.out x3_1 p367 q367
     cases e367
     replace hx367_0 := cm_ HB.out hx367_0
     replace hx367_1 := cm_ HB.out hx367_1
     replace hx367_2 := cm_ HB.out hx367_2
     replace hx367_3 := cm_ HB.out hx367_3
     replace hx367_4 := cm_ HB.out hx367_4
     replace hx367_5 := cm_ HB.out hx367_5
     replace hx367_6 := cm_ HB.out hx367_6
     replace hx367_7 := cm_ HB.out hx367_7
     replace hx367_8 := cm_ HB.out hx367_8
     replace p367 := eq_true p367
     replace q367 := eq_true q367
     go_wp2_with (first | ((with_reducible refine gate_dst (N := 4) rfl ?_); refine be_ (N := 4) (cs := #[.string (⟨#[]⟩ : ByteArray), .int .i64 0, .int .i64 0, .int .i64 0, .int .i64 0, .int .i64 0, .int .i64 0, .int .i64 0, .int .i64 0]) (t := 41) ?_; intro gb368 hg w28 hbox hb; have BK368 := am_ (hbox); have GW368 := gw_ (w := w) hg; have GE368 := gw_ (w := w) hg; replace HB := bt_ hb; have NB366_368 := ne_ hg BK366; have NB368_366 := nf_ hg BK366; replace BK366 := bw_ BK366 hb; clear hb hbox hg; have hnb29 := NB368_366.out; have hnc29 := NB366_368.out; have hcz30_0 : w28.cell? ⟨gb368, 0, none⟩ = some (.string (⟨#[]⟩ : ByteArray)) := (blk_cell BK368.out 0).trans rfl; have hcz30_1 : w28.cell? ⟨gb368, 1, none⟩ = some (.int .i64 0) := (blk_cell BK368.out 1).trans rfl; have hcz30_2 : w28.cell? ⟨gb368, 2, none⟩ = some (.int .i64 0) := (blk_cell BK368.out 2).trans rfl; have hcz30_3 : w28.cell? ⟨gb368, 3, none⟩ = some (.int .i64 0) := (blk_cell BK368.out 3).trans rfl; have hcz30_4 : w28.cell? ⟨gb368, 4, none⟩ = some (.int .i64 0) := (blk_cell BK368.out 4).trans rfl; have hcz30_5 : w28.cell? ⟨gb368, 5, none⟩ = some (.int .i64 0) := (blk_cell BK368.out 5).trans rfl; have hcz30_6 : w28.cell? ⟨gb368, 6, none⟩ = some (.int .i64 0) := (blk_cell BK368.out 6).trans rfl; have hcz30_7 : w28.cell? ⟨gb368, 7, none⟩ = some (.int .i64 0) := (blk_cell BK368.out 7).trans rfl; have hcz30_8 : w28.cell? ⟨gb368, 8, none⟩ = some (.int .i64 0) := (blk_cell BK368.out 8).trans rfl; have hfz30_0 := blk_frozen BK368.out 0; have hfz30_1 := blk_frozen BK368.out 1; have hfz30_2 := blk_frozen BK368.out 2; have hfz30_3 := blk_frozen BK368.out 3; have hfz30_4 := blk_frozen BK368.out 4; have hfz30_5 := blk_frozen BK368.out 5; have hfz30_6 := blk_frozen BK368.out 6; have hfz30_7 := blk_frozen BK368.out 7; have hfz30_8 := blk_frozen BK368.out 8) | ((with_reducible refine gate_callee (f := 26) rfl ?_); refine goesL_ (some 21) rfl rfl Tryd.func26 (by kernel_rfl) rfl #[.string ((rd_T41 l0_1 x3_1).f0)] rfl (by (try simp only [List.map_toArray, List.map_cons, List.map_nil]); first | done | rfl | (simp only [List.length_drop, List.length_take]; rfl)) ?_; (with_reducible refine (computusref17_Identifier.calls k1 ((rd_T41 l0_1 x3_1).f0) true _ A5.out).mono ?_); rintro e w' ⟨rfl, ⟨nd, rfl⟩⟩; refine ⟨_, rfl, ?_⟩) | (go_at_call 27; (with_reducible refine (computusref26_In.calls ((rd_T41 l0_1 x3_1).f1) false _ A7.out).mono ?_); rintro e w' ⟨rfl, ⟨nd, rfl⟩⟩))
     go_ret
     exact rt_
    subst c8
    replace H := it_ H
    obtain ⟨t371, A9, H⟩ := bs_ H
    by_cases c10 : t371 = true
    rotate_left
    ·replace c10 := Bool.eq_false_iff.mpr c10
     subst c10
     replace H := if_ H
     obtain rfl := Option.some.inj H
     obtain ⟨hcz23_0, hcz23_1, hcz23_2⟩ := cz3_ BK366.out
     obtain ⟨hfz23_0, hfz23_1, hfz23_2⟩ := fz3_ BK366.out
     have p367 : 0 ≤ (x3_1 : Int) := of_decide_eq_true as_
     have q367 : x3_1 < (l0_1.length : Int) := of_decide_eq_true as_
     obtain ⟨ad367, e367, hx367_0, hx367_1, hx367_2, hx367_3, hx367_4, hx367_5, hx367_6, hx367_7, hx367_8⟩ := at_T41 HR0_1.out x3_1 p367 q367
     cases e367
     replace hx367_0 := cm_ HB.out hx367_0
     replace hx367_1 := cm_ HB.out hx367_1
     replace hx367_2 := cm_ HB.out hx367_2
     replace hx367_3 := cm_ HB.out hx367_3
     replace hx367_4 := cm_ HB.out hx367_4
     replace hx367_5 := cm_ HB.out hx367_5
     replace hx367_6 := cm_ HB.out hx367_6
     replace hx367_7 := cm_ HB.out hx367_7
     replace hx367_8 := cm_ HB.out hx367_8
     replace p367 := eq_true p367
     replace q367 := eq_true q367
     go_wp2_with (first | ((with_reducible refine gate_dst (N := 4) rfl ?_); refine be_ (N := 4) (cs := #[.string (⟨#[]⟩ : ByteArray), .int .i64 0, .int .i64 0, .int .i64 0, .int .i64 0, .int .i64 0, .int .i64 0, .int .i64 0, .int .i64 0]) (t := 41) ?_; intro gb368 hg w24 hbox hb; have BK368 := am_ (hbox); have GW368 := gw_ (w := w) hg; have GE368 := gw_ (w := w) hg; replace HB := bt_ hb; have NB366_368 := ne_ hg BK366; have NB368_366 := nf_ hg BK366; replace BK366 := bw_ BK366 hb; clear hb hbox hg; have hnb25 := NB368_366.out; have hnc25 := NB366_368.out; have hcz26_0 : w24.cell? ⟨gb368, 0, none⟩ = some (.string (⟨#[]⟩ : ByteArray)) := (blk_cell BK368.out 0).trans rfl; have hcz26_1 : w24.cell? ⟨gb368, 1, none⟩ = some (.int .i64 0) := (blk_cell BK368.out 1).trans rfl; have hcz26_2 : w24.cell? ⟨gb368, 2, none⟩ = some (.int .i64 0) := (blk_cell BK368.out 2).trans rfl; have hcz26_3 : w24.cell? ⟨gb368, 3, none⟩ = some (.int .i64 0) := (blk_cell BK368.out 3).trans rfl; have hcz26_4 : w24.cell? ⟨gb368, 4, none⟩ = some (.int .i64 0) := (blk_cell BK368.out 4).trans rfl; have hcz26_5 : w24.cell? ⟨gb368, 5, none⟩ = some (.int .i64 0) := (blk_cell BK368.out 5).trans rfl; have hcz26_6 : w24.cell? ⟨gb368, 6, none⟩ = some (.int .i64 0) := (blk_cell BK368.out 6).trans rfl; have hcz26_7 : w24.cell? ⟨gb368, 7, none⟩ = some (.int .i64 0) := (blk_cell BK368.out 7).trans rfl; have hcz26_8 : w24.cell? ⟨gb368, 8, none⟩ = some (.int .i64 0) := (blk_cell BK368.out 8).trans rfl; have hfz26_0 := blk_frozen BK368.out 0; have hfz26_1 := blk_frozen BK368.out 1; have hfz26_2 := blk_frozen BK368.out 2; have hfz26_3 := blk_frozen BK368.out 3; have hfz26_4 := blk_frozen BK368.out 4; have hfz26_5 := blk_frozen BK368.out 5; have hfz26_6 := blk_frozen BK368.out 6; have hfz26_7 := blk_frozen BK368.out 7; have hfz26_8 := blk_frozen BK368.out 8) | ((with_reducible refine gate_callee (f := 26) rfl ?_); refine goesL_ (some 21) rfl rfl Tryd.func26 (by kernel_rfl) rfl #[.string ((rd_T41 l0_1 x3_1).f0)] rfl (by (try simp only [List.map_toArray, List.map_cons, List.map_nil]); first | done | rfl | (simp only [List.length_drop, List.length_take]; rfl)) ?_; (with_reducible refine (computusref17_Identifier.calls k1 ((rd_T41 l0_1 x3_1).f0) true _ A5.out).mono ?_); rintro e w' ⟨rfl, ⟨nd, rfl⟩⟩; refine ⟨_, rfl, ?_⟩) | (go_at_call 27; (with_reducible refine (computusref26_In.calls ((rd_T41 l0_1 x3_1).f1) true _ A7.out).mono ?_); rintro e w' ⟨rfl, ⟨nd, rfl⟩⟩) | (go_at_call 27; (with_reducible refine (computusref26_In.calls ((rd_T41 l0_1 x3_1).f2) false _ A9.out).mono ?_); rintro e w' ⟨rfl, ⟨nd, rfl⟩⟩))
     go_ret
     exact rt_
    subst c10
    replace H := it_ H
    obtain ⟨t372, A11, H⟩ := bs_ H
    by_cases c12 : t372 = true
    rotate_left
    ·replace c12 := Bool.eq_false_iff.mpr c12
     subst c12
     replace H := if_ H
     obtain rfl := Option.some.inj H
     obtain ⟨hcz18_0, hcz18_1, hcz18_2⟩ := cz3_ BK366.out
     obtain ⟨hfz18_0, hfz18_1, hfz18_2⟩ := fz3_ BK366.out
     have p367 : 0 ≤ (x3_1 : Int) := of_decide_eq_true as_
     have q367 : x3_1 < (l0_1.length : Int) := of_decide_eq_true as_
     obtain ⟨ad367, e367, hx367_0, hx367_1, hx367_2, hx367_3, hx367_4, hx367_5, hx367_6, hx367_7, hx367_8⟩ := at_T41 HR0_1.out x3_1 p367 q367
     cases e367
     replace hx367_0 := cm_ HB.out hx367_0
     replace hx367_1 := cm_ HB.out hx367_1
     replace hx367_2 := cm_ HB.out hx367_2
     replace hx367_3 := cm_ HB.out hx367_3
     replace hx367_4 := cm_ HB.out hx367_4
     replace hx367_5 := cm_ HB.out hx367_5
     replace hx367_6 := cm_ HB.out hx367_6
     replace hx367_7 := cm_ HB.out hx367_7
     replace hx367_8 := cm_ HB.out hx367_8
     replace p367 := eq_true p367
     replace q367 := eq_true q367
     go_wp2_with (first | ((with_reducible refine gate_dst (N := 4) rfl ?_); refine be_ (N := 4) (cs := #[.string (⟨#[]⟩ : ByteArray), .int .i64 0, .int .i64 0, .int .i64 0, .int .i64 0, .int .i64 0, .int .i64 0, .int .i64 0, .int .i64 0]) (t := 41) ?_; intro gb368 hg w19 hbox hb; have BK368 := am_ (hbox); have GW368 := gw_ (w := w) hg; have GE368 := gw_ (w := w) hg; replace HB := bt_ hb; have NB366_368 := ne_ hg BK366; have NB368_366 := nf_ hg BK366; replace BK366 := bw_ BK366 hb; clear hb hbox hg; have hnb20 := NB368_366.out; have hnc20 := NB366_368.out; have hcz21_0 : w19.cell? ⟨gb368, 0, none⟩ = some (.string (⟨#[]⟩ : ByteArray)) := (blk_cell BK368.out 0).trans rfl; have hcz21_1 : w19.cell? ⟨gb368, 1, none⟩ = some (.int .i64 0) := (blk_cell BK368.out 1).trans rfl; have hcz21_2 : w19.cell? ⟨gb368, 2, none⟩ = some (.int .i64 0) := (blk_cell BK368.out 2).trans rfl; have hcz21_3 : w19.cell? ⟨gb368, 3, none⟩ = some (.int .i64 0) := (blk_cell BK368.out 3).trans rfl; have hcz21_4 : w19.cell? ⟨gb368, 4, none⟩ = some (.int .i64 0) := (blk_cell BK368.out 4).trans rfl; have hcz21_5 : w19.cell? ⟨gb368, 5, none⟩ = some (.int .i64 0) := (blk_cell BK368.out 5).trans rfl; have hcz21_6 : w19.cell? ⟨gb368, 6, none⟩ = some (.int .i64 0) := (blk_cell BK368.out 6).trans rfl; have hcz21_7 : w19.cell? ⟨gb368, 7, none⟩ = some (.int .i64 0) := (blk_cell BK368.out 7).trans rfl; have hcz21_8 : w19.cell? ⟨gb368, 8, none⟩ = some (.int .i64 0) := (blk_cell BK368.out 8).trans rfl; have hfz21_0 := blk_frozen BK368.out 0; have hfz21_1 := blk_frozen BK368.out 1; have hfz21_2 := blk_frozen BK368.out 2; have hfz21_3 := blk_frozen BK368.out 3; have hfz21_4 := blk_frozen BK368.out 4; have hfz21_5 := blk_frozen BK368.out 5; have hfz21_6 := blk_frozen BK368.out 6; have hfz21_7 := blk_frozen BK368.out 7; have hfz21_8 := blk_frozen BK368.out 8) | ((with_reducible refine gate_callee (f := 26) rfl ?_); refine goesL_ (some 21) rfl rfl Tryd.func26 (by kernel_rfl) rfl #[.string ((rd_T41 l0_1 x3_1).f0)] rfl (by (try simp only [List.map_toArray, List.map_cons, List.map_nil]); first | done | rfl | (simp only [List.length_drop, List.length_take]; rfl)) ?_; (with_reducible refine (computusref17_Identifier.calls k1 ((rd_T41 l0_1 x3_1).f0) true _ A5.out).mono ?_); rintro e w' ⟨rfl, ⟨nd, rfl⟩⟩; refine ⟨_, rfl, ?_⟩) | (go_at_call 27; (with_reducible refine (computusref26_In.calls ((rd_T41 l0_1 x3_1).f1) true _ A7.out).mono ?_); rintro e w' ⟨rfl, ⟨nd, rfl⟩⟩) | (go_at_call 27; (with_reducible refine (computusref26_In.calls ((rd_T41 l0_1 x3_1).f2) true _ A9.out).mono ?_); rintro e w' ⟨rfl, ⟨nd, rfl⟩⟩) | (go_at_call 28; (with_reducible refine (computusref26_printableAnchor.calls k1 ((rd_T41 l0_1 x3_1).f3.f0) ((rd_T41 l0_1 x3_1).f3.f1) ((rd_T41 l0_1 x3_1).f3.f2) ((rd_T41 l0_1 x3_1).f3.f3) ((rd_T41 l0_1 x3_1).f3.f4) ((rd_T41 l0_1 x3_1).f3.f5) false _ A11.out).mono ?_); rintro e w22 ⟨rfl, hb⟩; replace BK366 := am_ (blk_below (g := gb366) (o := .cells #[.int .i64 a0_0, .slice (some ad367) l0_1.length c0_1, .slice A0_2 l0_2.length c0_2] 26 (0, 0)) (by refine bp_ ?_; refine blk_far ?_ NB366_368.out _; refine bp_ ?_; refine blk_far ?_ NB366_368.out _; refine bp_ ?_; refine blk_far ?_ NB366_368.out _; refine bp_ ?_; refine blk_far ?_ NB366_368.out _; refine bp_ ?_; refine blk_far ?_ NB366_368.out _; refine bp_ ?_; refine blk_far ?_ NB366_368.out _; refine bp_ ?_; refine blk_far ?_ NB366_368.out _; refine bp_ ?_; refine blk_far ?_ NB366_368.out _; refine bp_ ?_; refine blk_far ?_ NB366_368.out _; exact bk_ BK366.out) hb); replace BK368 := am_ (blk_below (g := gb368) (o := .cells #[.string ((rd_T41 l0_1 x3_1).f0), .int .i64 ((rd_T41 l0_1 x3_1).f1), .int .i64 ((rd_T41 l0_1 x3_1).f2), .int .i64 ((rd_T41 l0_1 x3_1).f3.f0), .int .i64 ((rd_T41 l0_1 x3_1).f3.f1), .int .i64 ((rd_T41 l0_1 x3_1).f3.f2), .int .i64 ((rd_T41 l0_1 x3_1).f3.f3), .int .i64 ((rd_T41 l0_1 x3_1).f3.f4), .int .i64 ((rd_T41 l0_1 x3_1).f3.f5)] 41 (0, 0)) (by refine bp_ ?_; refine blk_put (cs := #[.string ((rd_T41 l0_1 x3_1).f0), .int .i64 ((rd_T41 l0_1 x3_1).f1), .int .i64 ((rd_T41 l0_1 x3_1).f2), .int .i64 ((rd_T41 l0_1 x3_1).f3.f0), .int .i64 ((rd_T41 l0_1 x3_1).f3.f1), .int .i64 ((rd_T41 l0_1 x3_1).f3.f2), .int .i64 ((rd_T41 l0_1 x3_1).f3.f3), .int .i64 ((rd_T41 l0_1 x3_1).f3.f4), .int .i64 0]) ?_ 8 _ rfl; refine bp_ ?_; refine blk_put (cs := #[.string ((rd_T41 l0_1 x3_1).f0), .int .i64 ((rd_T41 l0_1 x3_1).f1), .int .i64 ((rd_T41 l0_1 x3_1).f2), .int .i64 ((rd_T41 l0_1 x3_1).f3.f0), .int .i64 ((rd_T41 l0_1 x3_1).f3.f1), .int .i64 ((rd_T41 l0_1 x3_1).f3.f2), .int .i64 ((rd_T41 l0_1 x3_1).f3.f3), .int .i64 0, .int .i64 0]) ?_ 7 _ rfl; refine bp_ ?_; refine blk_put (cs := #[.string ((rd_T41 l0_1 x3_1).f0), .int .i64 ((rd_T41 l0_1 x3_1).f1), .int .i64 ((rd_T41 l0_1 x3_1).f2), .int .i64 ((rd_T41 l0_1 x3_1).f3.f0), .int .i64 ((rd_T41 l0_1 x3_1).f3.f1), .int .i64 ((rd_T41 l0_1 x3_1).f3.f2), .int .i64 0, .int .i64 0, .int .i64 0]) ?_ 6 _ rfl; refine bp_ ?_; refine blk_put (cs := #[.string ((rd_T41 l0_1 x3_1).f0), .int .i64 ((rd_T41 l0_1 x3_1).f1), .int .i64 ((rd_T41 l0_1 x3_1).f2), .int .i64 ((rd_T41 l0_1 x3_1).f3.f0), .int .i64 ((rd_T41 l0_1 x3_1).f3.f1), .int .i64 0, .int .i64 0, .int .i64 0, .int .i64 0]) ?_ 5 _ rfl; refine bp_ ?_; refine blk_put (cs := #[.string ((rd_T41 l0_1 x3_1).f0), .int .i64 ((rd_T41 l0_1 x3_1).f1), .int .i64 ((rd_T41 l0_1 x3_1).f2), .int .i64 ((rd_T41 l0_1 x3_1).f3.f0), .int .i64 0, .int .i64 0, .int .i64 0, .int .i64 0, .int .i64 0]) ?_ 4 _ rfl; refine bp_ ?_; refine blk_put (cs := #[.string ((rd_T41 l0_1 x3_1).f0), .int .i64 ((rd_T41 l0_1 x3_1).f1), .int .i64 ((rd_T41 l0_1 x3_1).f2), .int .i64 0, .int .i64 0, .int .i64 0, .int .i64 0, .int .i64 0, .int .i64 0]) ?_ 3 _ rfl; refine bp_ ?_; refine blk_put (cs := #[.string ((rd_T41 l0_1 x3_1).f0), .int .i64 ((rd_T41 l0_1 x3_1).f1), .int .i64 0, .int .i64 0, .int .i64 0, .int .i64 0, .int .i64 0, .int .i64 0, .int .i64 0]) ?_ 2 _ rfl; refine bp_ ?_; refine blk_put (cs := #[.string ((rd_T41 l0_1 x3_1).f0), .int .i64 0, .int .i64 0, .int .i64 0, .int .i64 0, .int .i64 0, .int .i64 0, .int .i64 0, .int .i64 0]) ?_ 1 _ rfl; refine bp_ ?_; refine blk_put (cs := #[.string (⟨#[]⟩ : ByteArray), .int .i64 0, .int .i64 0, .int .i64 0, .int .i64 0, .int .i64 0, .int .i64 0, .int .i64 0, .int .i64 0]) ?_ 0 _ rfl; exact bk_ BK368.out) hb); replace HB := bt_ hb; (try clear hb); (try clear hi)))
     go_ret
     exact rt_
    subst c12
    replace H := it_ H
    have H' := am_ H
    clear H
    obtain ⟨hcz13_0, hcz13_1, hcz13_2⟩ := cz3_ BK366.out
    obtain ⟨hfz13_0, hfz13_1, hfz13_2⟩ := fz3_ BK366.out
    have p367 : 0 ≤ (x3_1 : Int) := of_decide_eq_true as_
    have q367 : x3_1 < (l0_1.length : Int) := of_decide_eq_true as_
    obtain ⟨ad367, e367, hx367_0, hx367_1, hx367_2, hx367_3, hx367_4, hx367_5, hx367_6, hx367_7, hx367_8⟩ := at_T41 HR0_1.out x3_1 p367 q367
    cases e367
    replace hx367_0 := cm_ HB.out hx367_0
    replace hx367_1 := cm_ HB.out hx367_1
    replace hx367_2 := cm_ HB.out hx367_2
    replace hx367_3 := cm_ HB.out hx367_3
    replace hx367_4 := cm_ HB.out hx367_4
    replace hx367_5 := cm_ HB.out hx367_5
    replace hx367_6 := cm_ HB.out hx367_6
    replace hx367_7 := cm_ HB.out hx367_7
    replace hx367_8 := cm_ HB.out hx367_8
    replace p367 := eq_true p367
    replace q367 := eq_true q367
    go_wp2_with (first | ((with_reducible refine gate_dst (N := 4) rfl ?_); refine be_ (N := 4) (cs := #[.string (⟨#[]⟩ : ByteArray), .int .i64 0, .int .i64 0, .int .i64 0, .int .i64 0, .int .i64 0, .int .i64 0, .int .i64 0, .int .i64 0]) (t := 41) ?_; intro gb368 hg w14 hbox hb; have BK368 := am_ (hbox); have GW368 := gw_ (w := w) hg; have GE368 := gw_ (w := w) hg; replace HB := bt_ hb; have NB366_368 := ne_ hg BK366; have NB368_366 := nf_ hg BK366; replace BK366 := bw_ BK366 hb; clear hb hbox hg; have hnb15 := NB368_366.out; have hnc15 := NB366_368.out; have hcz16_0 : w14.cell? ⟨gb368, 0, none⟩ = some (.string (⟨#[]⟩ : ByteArray)) := (blk_cell BK368.out 0).trans rfl; have hcz16_1 : w14.cell? ⟨gb368, 1, none⟩ = some (.int .i64 0) := (blk_cell BK368.out 1).trans rfl; have hcz16_2 : w14.cell? ⟨gb368, 2, none⟩ = some (.int .i64 0) := (blk_cell BK368.out 2).trans rfl; have hcz16_3 : w14.cell? ⟨gb368, 3, none⟩ = some (.int .i64 0) := (blk_cell BK368.out 3).trans rfl; have hcz16_4 : w14.cell? ⟨gb368, 4, none⟩ = some (.int .i64 0) := (blk_cell BK368.out 4).trans rfl; have hcz16_5 : w14.cell? ⟨gb368, 5, none⟩ = some (.int .i64 0) := (blk_cell BK368.out 5).trans rfl; have hcz16_6 : w14.cell? ⟨gb368, 6, none⟩ = some (.int .i64 0) := (blk_cell BK368.out 6).trans rfl; have hcz16_7 : w14.cell? ⟨gb368, 7, none⟩ = some (.int .i64 0) := (blk_cell BK368.out 7).trans rfl; have hcz16_8 : w14.cell? ⟨gb368, 8, none⟩ = some (.int .i64 0) := (blk_cell BK368.out 8).trans rfl; have hfz16_0 := blk_frozen BK368.out 0; have hfz16_1 := blk_frozen BK368.out 1; have hfz16_2 := blk_frozen BK368.out 2; have hfz16_3 := blk_frozen BK368.out 3; have hfz16_4 := blk_frozen BK368.out 4; have hfz16_5 := blk_frozen BK368.out 5; have hfz16_6 := blk_frozen BK368.out 6; have hfz16_7 := blk_frozen BK368.out 7; have hfz16_8 := blk_frozen BK368.out 8) | ((with_reducible refine gate_callee (f := 26) rfl ?_); refine goesL_ (some 21) rfl rfl Tryd.func26 (by kernel_rfl) rfl #[.string ((rd_T41 l0_1 x3_1).f0)] rfl (by (try simp only [List.map_toArray, List.map_cons, List.map_nil]); first | done | rfl | (simp only [List.length_drop, List.length_take]; rfl)) ?_; (with_reducible refine (computusref17_Identifier.calls k1 ((rd_T41 l0_1 x3_1).f0) true _ A5.out).mono ?_); rintro e w' ⟨rfl, ⟨nd, rfl⟩⟩; refine ⟨_, rfl, ?_⟩) | (go_at_call 27; (with_reducible refine (computusref26_In.calls ((rd_T41 l0_1 x3_1).f1) true _ A7.out).mono ?_); rintro e w' ⟨rfl, ⟨nd, rfl⟩⟩) | (go_at_call 27; (with_reducible refine (computusref26_In.calls ((rd_T41 l0_1 x3_1).f2) true _ A9.out).mono ?_); rintro e w' ⟨rfl, ⟨nd, rfl⟩⟩) | (go_at_call 28; (with_reducible refine (computusref26_printableAnchor.calls k1 ((rd_T41 l0_1 x3_1).f3.f0) ((rd_T41 l0_1 x3_1).f3.f1) ((rd_T41 l0_1 x3_1).f3.f2) ((rd_T41 l0_1 x3_1).f3.f3) ((rd_T41 l0_1 x3_1).f3.f4) ((rd_T41 l0_1 x3_1).f3.f5) true _ A11.out).mono ?_); rintro e w17 ⟨rfl, hb⟩; replace BK366 := am_ (blk_below (g := gb366) (o := .cells #[.int .i64 a0_0, .slice (some ad367) l0_1.length c0_1, .slice A0_2 l0_2.length c0_2] 26 (0, 0)) (by refine bp_ ?_; refine blk_far ?_ NB366_368.out _; refine bp_ ?_; refine blk_far ?_ NB366_368.out _; refine bp_ ?_; refine blk_far ?_ NB366_368.out _; refine bp_ ?_; refine blk_far ?_ NB366_368.out _; refine bp_ ?_; refine blk_far ?_ NB366_368.out _; refine bp_ ?_; refine blk_far ?_ NB366_368.out _; refine bp_ ?_; refine blk_far ?_ NB366_368.out _; refine bp_ ?_; refine blk_far ?_ NB366_368.out _; refine bp_ ?_; refine blk_far ?_ NB366_368.out _; exact bk_ BK366.out) hb); replace BK368 := am_ (blk_below (g := gb368) (o := .cells #[.string ((rd_T41 l0_1 x3_1).f0), .int .i64 ((rd_T41 l0_1 x3_1).f1), .int .i64 ((rd_T41 l0_1 x3_1).f2), .int .i64 ((rd_T41 l0_1 x3_1).f3.f0), .int .i64 ((rd_T41 l0_1 x3_1).f3.f1), .int .i64 ((rd_T41 l0_1 x3_1).f3.f2), .int .i64 ((rd_T41 l0_1 x3_1).f3.f3), .int .i64 ((rd_T41 l0_1 x3_1).f3.f4), .int .i64 ((rd_T41 l0_1 x3_1).f3.f5)] 41 (0, 0)) (by refine bp_ ?_; refine blk_put (cs := #[.string ((rd_T41 l0_1 x3_1).f0), .int .i64 ((rd_T41 l0_1 x3_1).f1), .int .i64 ((rd_T41 l0_1 x3_1).f2), .int .i64 ((rd_T41 l0_1 x3_1).f3.f0), .int .i64 ((rd_T41 l0_1 x3_1).f3.f1), .int .i64 ((rd_T41 l0_1 x3_1).f3.f2), .int .i64 ((rd_T41 l0_1 x3_1).f3.f3), .int .i64 ((rd_T41 l0_1 x3_1).f3.f4), .int .i64 0]) ?_ 8 _ rfl; refine bp_ ?_; refine blk_put (cs := #[.string ((rd_T41 l0_1 x3_1).f0), .int .i64 ((rd_T41 l0_1 x3_1).f1), .int .i64 ((rd_T41 l0_1 x3_1).f2), .int .i64 ((rd_T41 l0_1 x3_1).f3.f0), .int .i64 ((rd_T41 l0_1 x3_1).f3.f1), .int .i64 ((rd_T41 l0_1 x3_1).f3.f2), .int .i64 ((rd_T41 l0_1 x3_1).f3.f3), .int .i64 0, .int .i64 0]) ?_ 7 _ rfl; refine bp_ ?_; refine blk_put (cs := #[.string ((rd_T41 l0_1 x3_1).f0), .int .i64 ((rd_T41 l0_1 x3_1).f1), .int .i64 ((rd_T41 l0_1 x3_1).f2), .int .i64 ((rd_T41 l0_1 x3_1).f3.f0), .int .i64 ((rd_T41 l0_1 x3_1).f3.f1), .int .i64 ((rd_T41 l0_1 x3_1).f3.f2), .int .i64 0, .int .i64 0, .int .i64 0]) ?_ 6 _ rfl; refine bp_ ?_; refine blk_put (cs := #[.string ((rd_T41 l0_1 x3_1).f0), .int .i64 ((rd_T41 l0_1 x3_1).f1), .int .i64 ((rd_T41 l0_1 x3_1).f2), .int .i64 ((rd_T41 l0_1 x3_1).f3.f0), .int .i64 ((rd_T41 l0_1 x3_1).f3.f1), .int .i64 0, .int .i64 0, .int .i64 0, .int .i64 0]) ?_ 5 _ rfl; refine bp_ ?_; refine blk_put (cs := #[.string ((rd_T41 l0_1 x3_1).f0), .int .i64 ((rd_T41 l0_1 x3_1).f1), .int .i64 ((rd_T41 l0_1 x3_1).f2), .int .i64 ((rd_T41 l0_1 x3_1).f3.f0), .int .i64 0, .int .i64 0, .int .i64 0, .int .i64 0, .int .i64 0]) ?_ 4 _ rfl; refine bp_ ?_; refine blk_put (cs := #[.string ((rd_T41 l0_1 x3_1).f0), .int .i64 ((rd_T41 l0_1 x3_1).f1), .int .i64 ((rd_T41 l0_1 x3_1).f2), .int .i64 0, .int .i64 0, .int .i64 0, .int .i64 0, .int .i64 0, .int .i64 0]) ?_ 3 _ rfl; refine bp_ ?_; refine blk_put (cs := #[.string ((rd_T41 l0_1 x3_1).f0), .int .i64 ((rd_T41 l0_1 x3_1).f1), .int .i64 0, .int .i64 0, .int .i64 0, .int .i64 0, .int .i64 0, .int .i64 0, .int .i64 0]) ?_ 2 _ rfl; refine bp_ ?_; refine blk_put (cs := #[.string ((rd_T41 l0_1 x3_1).f0), .int .i64 0, .int .i64 0, .int .i64 0, .int .i64 0, .int .i64 0, .int .i64 0, .int .i64 0, .int .i64 0]) ?_ 1 _ rfl; refine bp_ ?_; refine blk_put (cs := #[.string (⟨#[]⟩ : ByteArray), .int .i64 0, .int .i64 0, .int .i64 0, .int .i64 0, .int .i64 0, .int .i64 0, .int .i64 0, .int .i64 0]) ?_ 0 _ rfl; exact bk_ BK368.out) hb); replace HB := bt_ hb; (try clear hb); (try clear hi)))
    go_roundg k1
    case measure => have := HK1.out; omega
    case rel => exact ⟨(wrap64 (x3_1 + 1)), rs_, H', ⟨by have := HK1.out; omega⟩, ⟨bk_ BK366.out⟩, ⟨bh_⟩⟩
   rw [if_neg c3] at H
   have c3b0 : decide (x3_1 < (l0_1.length : Int)) = false := decide_eq_false c3
   clear c3
   have H' := am_ H
   clear H
   obtain ⟨hcz35_0, hcz35_1, hcz35_2⟩ := cz3_ BK366.out
   obtain ⟨hfz35_0, hfz35_1, hfz35_2⟩ := fz3_ BK366.out
   go_wp2
   go_loopg [5] k1 (fun kq v5 w' => ∃ (x5_2 : Int), v5 = .int .i64 x5_2 ∧ Aside0 (computusref26_Printable.l1 kq x5_2 a0_0 l0_1 l0_2 = some r) ∧ Aside0 (kq ≤ k1) ∧ Aside0 (w'.heap[gb366]? = some (.cells #[.int .i64 a0_0, (.slice A0_1 l0_1.length c0_1), (.slice A0_2 l0_2.length c0_2)] 26 (0, 0))) ∧ Aside0 (Below w.heap.size w w'))
   case atStart => exact ⟨(0), rs_, H', ⟨Nat.le_refl _⟩, ⟨bk_ BK366.out⟩, ⟨bh_⟩⟩
   case round =>
    clear H'
    obtain ⟨x5_2, rfl, HA, HK2, BK366, HB⟩ := hrel
    cases gk with
    | zero => exact absurd HA.out (by simp [computusref26_Printable.l1])
    | succ k2 =>
     have H := HA.out
     clear HA
     simp only [computusref26_Printable.l1] at H
     by_cases c36 : x5_2 < (l0_2.length : Int)
     rotate_left
     ·rw [if_neg c36] at H
      have c36b0 : decide (x5_2 < (l0_2.length : Int)) = false := decide_eq_false c36
      clear c36
      obtain ⟨t373, A72, H⟩ := bs_ H
      obtain rfl := Option.some.inj H
      obtain ⟨hcz73_0, hcz73_1, hcz73_2⟩ := cz3_ BK366.out
      obtain ⟨hfz73_0, hfz73_1, hfz73_2⟩ := fz3_ BK366.out
      go_wp2_with (first | ((with_reducible refine gate_callee (f := 27) rfl ?_); refine goesL_ (some 81) rfl rfl Tryd.func27 (by kernel_rfl) rfl #[.int .i64 a0_0] rfl (by (try simp only [List.map_toArray, List.map_cons, List.map_nil]); first | done | rfl | (simp only [List.length_drop, List.length_take]; rfl)) ?_; (with_reducible refine (computusref26_In.calls a0_0 t373 _ A72.out).mono ?_); rintro e w' ⟨rfl, ⟨nd, rfl⟩⟩; refine ⟨_, rfl, ?_⟩))
      go_ret
      exact rt_
     rw [if_pos c36] at H
     have c36b0 : decide (x5_2 < (l0_2.length : Int)) = true := decide_eq_true c36
     clear c36
     by_cases c37 : 0 ≤ x5_2
     rotate_left
     ·rw [if_neg c37] at H
      exact absurd H (by simp)
     rw [if_pos c37] at H
     have c37b0 : decide (0 ≤ x5_2) = true := decide_eq_true c37
     clear c37
     obtain ⟨t376, A38, H⟩ := bs_ H
     by_cases c39 : t376 = true
     rotate_left
     ·replace c39 := Bool.eq_false_iff.mpr c39
      subst c39
      replace H := if_ H
      obtain rfl := Option.some.inj H
      obtain ⟨hcz68_0, hcz68_1, hcz68_2⟩ := cz3_ BK366.out
      obtain ⟨hfz68_0, hfz68_1, hfz68_2⟩ := fz3_ BK366.out
      have p374 : 0 ≤ (x5_2 : Int) := of_decide_eq_true as_
      have q374 : x5_2 < (l0_2.length : Int) := of_decide_eq_true as_
      obtain ⟨ad374, e374, hx374_0, hx374_1, hx374_2, hx374_3, hx374_4, hx374_5, hx374_6, hx374_7, hx374_8⟩ := at_T43 HR0_2.out x5_2 p374 q374
      cases e374
      replace hx374_0 := cm_ HB.out hx374_0
      replace hx374_1 := cm_ HB.out hx374_1
      replace hx374_2 := cm_ HB.out hx374_2
      replace hx374_3 := cm_ HB.out hx374_3
      replace hx374_4 := cm_ HB.out hx374_4
      replace hx374_5 := cm_ HB.out hx374_5
      replace hx374_6 := cm_ HB.out hx374_6
      replace hx374_7 := cm_ HB.out hx374_7
      replace hx374_8 := cm_ HB.out hx374_8
      replace p374 := eq_true p374
      replace q374 := eq_true q374
      go_wp2_with (first | ((with_reducible refine gate_dst (N := 6) rfl ?_); refine be_ (N := 6) (cs := #[.string (⟨#[]⟩ : ByteArray), .int .i64 0, .int .i64 0, .int .i64 0, .int .i64 0, .int .i64 0, .int .i64 0, .int .i64 0, .int .i64 0]) (t := 43) ?_; intro gb375 hg w69 hbox hb; have BK375 := am_ (hbox); have GW375 := gw_ (w := w) hg; have GE375 := gw_ (w := w) hg; replace HB := bt_ hb; have NB366_375 := ne_ hg BK366; have NB375_366 := nf_ hg BK366; replace BK366 := bw_ BK366 hb; clear hb hbox hg; have hnb70 := NB375_366.out; have hnc70 := NB366_375.out; have hcz71_0 : w69.cell? ⟨gb375, 0, none⟩ = some (.string (⟨#[]⟩ : ByteArray)) := (blk_cell BK375.out 0).trans rfl; have hcz71_1 : w69.cell? ⟨gb375, 1, none⟩ = some (.int .i64 0) := (blk_cell BK375.out 1).trans rfl; have hcz71_2 : w69.cell? ⟨gb375, 2, none⟩ = some (.int .i64 0) := (blk_cell BK375.out 2).trans rfl; have hcz71_3 : w69.cell? ⟨gb375, 3, none⟩ = some (.int .i64 0) := (blk_cell BK375.out 3).trans rfl; have hcz71_4 : w69.cell? ⟨gb375, 4, none⟩ = some (.int .i64 0) := (blk_cell BK375.out 4).trans rfl; have hcz71_5 : w69.cell? ⟨gb375, 5, none⟩ = some (.int .i64 0) := (blk_cell BK375.out 5).trans rfl; have hcz71_6 : w69.cell? ⟨gb375, 6, none⟩ = some (.int .i64 0) := (blk_cell BK375.out 6).trans rfl; have hcz71_7 : w69.cell? ⟨gb375, 7, none⟩ = some (.int .i64 0) := (blk_cell BK375.out 7).trans rfl; have hcz71_8 : w69.cell? ⟨gb375, 8, none⟩ = some (.int .i64 0) := (blk_cell BK375.out 8).trans rfl; have hfz71_0 := blk_frozen BK375.out 0; have hfz71_1 := blk_frozen BK375.out 1; have hfz71_2 := blk_frozen BK375.out 2; have hfz71_3 := blk_frozen BK375.out 3; have hfz71_4 := blk_frozen BK375.out 4; have hfz71_5 := blk_frozen BK375.out 5; have hfz71_6 := blk_frozen BK375.out 6; have hfz71_7 := blk_frozen BK375.out 7; have hfz71_8 := blk_frozen BK375.out 8) | ((with_reducible refine gate_callee (f := 26) rfl ?_); refine goesL_ (some 55) rfl rfl Tryd.func26 (by kernel_rfl) rfl #[.string ((rd_T43 l0_2 x5_2).f0)] rfl (by (try simp only [List.map_toArray, List.map_cons, List.map_nil]); first | done | rfl | (simp only [List.length_drop, List.length_take]; rfl)) ?_; (with_reducible refine (computusref17_Identifier.calls k2 ((rd_T43 l0_2 x5_2).f0) false _ A38.out).mono ?_); rintro e w' ⟨rfl, ⟨nd, rfl⟩⟩; refine ⟨_, rfl, ?_⟩))
      go_ret
      exact rt_
     subst c39
     replace H := it_ H
     obtain ⟨t377, A40, H⟩ := bs_ H
     by_cases c41 : t377 = true
     rotate_left
     ·replace c41 := Bool.eq_false_iff.mpr c41
      subst c41
      replace H := if_ H
      obtain rfl := Option.some.inj H
      obtain ⟨hcz64_0, hcz64_1, hcz64_2⟩ := cz3_ BK366.out
      obtain ⟨hfz64_0, hfz64_1, hfz64_2⟩ := fz3_ BK366.out
      have p374 : 0 ≤ (x5_2 : Int) := of_decide_eq_true as_
      have q374 : x5_2 < (l0_2.length : Int) := of_decide_eq_true as_
      obtain ⟨ad374, e374, hx374_0, hx374_1, hx374_2, hx374_3, hx374_4, hx374_5, hx374_6, hx374_7, hx374_8⟩ := at_T43 HR0_2.out x5_2 p374 q374
      cases e374
      replace hx374_0 := cm_ HB.out hx374_0
      replace hx374_1 := cm_ HB.out hx374_1
      replace hx374_2 := cm_ HB.out hx374_2
      replace hx374_3 := cm_ HB.out hx374_3
      replace hx374_4 := cm_ HB.out hx374_4
      replace hx374_5 := cm_ HB.out hx374_5
      replace hx374_6 := cm_ HB.out hx374_6
      replace hx374_7 := cm_ HB.out hx374_7
      replace hx374_8 := cm_ HB.out hx374_8
      replace p374 := eq_true p374
      replace q374 := eq_true q374
      go_wp2_with (first | ((with_reducible refine gate_dst (N := 6) rfl ?_); refine be_ (N := 6) (cs := #[.string (⟨#[]⟩ : ByteArray), .int .i64 0, .int .i64 0, .int .i64 0, .int .i64 0, .int .i64 0, .int .i64 0, .int .i64 0, .int .i64 0]) (t := 43) ?_; intro gb375 hg w65 hbox hb; have BK375 := am_ (hbox); have GW375 := gw_ (w := w) hg; have GE375 := gw_ (w := w) hg; replace HB := bt_ hb; have NB366_375 := ne_ hg BK366; have NB375_366 := nf_ hg BK366; replace BK366 := bw_ BK366 hb; clear hb hbox hg; have hnb66 := NB375_366.out; have hnc66 := NB366_375.out; have hcz67_0 : w65.cell? ⟨gb375, 0, none⟩ = some (.string (⟨#[]⟩ : ByteArray)) := (blk_cell BK375.out 0).trans rfl; have hcz67_1 : w65.cell? ⟨gb375, 1, none⟩ = some (.int .i64 0) := (blk_cell BK375.out 1).trans rfl; have hcz67_2 : w65.cell? ⟨gb375, 2, none⟩ = some (.int .i64 0) := (blk_cell BK375.out 2).trans rfl; have hcz67_3 : w65.cell? ⟨gb375, 3, none⟩ = some (.int .i64 0) := (blk_cell BK375.out 3).trans rfl; have hcz67_4 : w65.cell? ⟨gb375, 4, none⟩ = some (.int .i64 0) := (blk_cell BK375.out 4).trans rfl; have hcz67_5 : w65.cell? ⟨gb375, 5, none⟩ = some (.int .i64 0) := (blk_cell BK375.out 5).trans rfl; have hcz67_6 : w65.cell? ⟨gb375, 6, none⟩ = some (.int .i64 0) := (blk_cell BK375.out 6).trans rfl; have hcz67_7 : w65.cell? ⟨gb375, 7, none⟩ = some (.int .i64 0) := (blk_cell BK375.out 7).trans rfl; have hcz67_8 : w65.cell? ⟨gb375, 8, none⟩ = some (.int .i64 0) := (blk_cell BK375.out 8).trans rfl; have hfz67_0 := blk_frozen BK375.out 0; have hfz67_1 := blk_frozen BK375.out 1; have hfz67_2 := blk_frozen BK375.out 2; have hfz67_3 := blk_frozen BK375.out 3; have hfz67_4 := blk_frozen BK375.out 4; have hfz67_5 := blk_frozen BK375.out 5; have hfz67_6 := blk_frozen BK375.out 6; have hfz67_7 := blk_frozen BK375.out 7; have hfz67_8 := blk_frozen BK375.out 8) | ((with_reducible refine gate_callee (f := 26) rfl ?_); refine goesL_ (some 55) rfl rfl Tryd.func26 (by kernel_rfl) rfl #[.string ((rd_T43 l0_2 x5_2).f0)] rfl (by (try simp only [List.map_toArray, List.map_cons, List.map_nil]); first | done | rfl | (simp only [List.length_drop, List.length_take]; rfl)) ?_; (with_reducible refine (computusref17_Identifier.calls k2 ((rd_T43 l0_2 x5_2).f0) true _ A38.out).mono ?_); rintro e w' ⟨rfl, ⟨nd, rfl⟩⟩; refine ⟨_, rfl, ?_⟩) | (go_at_call 27; (with_reducible refine (computusref26_In.calls ((rd_T43 l0_2 x5_2).f1) false _ A40.out).mono ?_); rintro e w' ⟨rfl, ⟨nd, rfl⟩⟩))
      go_ret
      exact rt_
     subst c41
     replace H := it_ H
     by_cases c42 : ((rd_T43 l0_2 x5_2).f2) < 1
     ·rw [if_pos c42] at H
      have c42b0 : decide (((rd_T43 l0_2 x5_2).f2) < 1) = true := decide_eq_true c42
      clear c42
      obtain rfl := Option.some.inj H
      obtain ⟨hcz43_0, hcz43_1, hcz43_2⟩ := cz3_ BK366.out
      obtain ⟨hfz43_0, hfz43_1, hfz43_2⟩ := fz3_ BK366.out
      have p374 : 0 ≤ (x5_2 : Int) := of_decide_eq_true as_
      have q374 : x5_2 < (l0_2.length : Int) := of_decide_eq_true as_
      obtain ⟨ad374, e374, hx374_0, hx374_1, hx374_2, hx374_3, hx374_4, hx374_5, hx374_6, hx374_7, hx374_8⟩ := at_T43 HR0_2.out x5_2 p374 q374
      cases e374
      replace hx374_0 := cm_ HB.out hx374_0
      replace hx374_1 := cm_ HB.out hx374_1
      replace hx374_2 := cm_ HB.out hx374_2
      replace hx374_3 := cm_ HB.out hx374_3
      replace hx374_4 := cm_ HB.out hx374_4
      replace hx374_5 := cm_ HB.out hx374_5
      replace hx374_6 := cm_ HB.out hx374_6
      replace hx374_7 := cm_ HB.out hx374_7
      replace hx374_8 := cm_ HB.out hx374_8
      replace p374 := eq_true p374
      replace q374 := eq_true q374
      go_wp2_with (first | ((with_reducible refine gate_dst (N := 6) rfl ?_); refine be_ (N := 6) (cs := #[.string (⟨#[]⟩ : ByteArray), .int .i64 0, .int .i64 0, .int .i64 0, .int .i64 0, .int .i64 0, .int .i64 0, .int .i64 0, .int .i64 0]) (t := 43) ?_; intro gb375 hg w44 hbox hb; have BK375 := am_ (hbox); have GW375 := gw_ (w := w) hg; have GE375 := gw_ (w := w) hg; replace HB := bt_ hb; have NB366_375 := ne_ hg BK366; have NB375_366 := nf_ hg BK366; replace BK366 := bw_ BK366 hb; clear hb hbox hg; have hnb45 := NB375_366.out; have hnc45 := NB366_375.out; have hcz46_0 : w44.cell? ⟨gb375, 0, none⟩ = some (.string (⟨#[]⟩ : ByteArray)) := (blk_cell BK375.out 0).trans rfl; have hcz46_1 : w44.cell? ⟨gb375, 1, none⟩ = some (.int .i64 0) := (blk_cell BK375.out 1).trans rfl; have hcz46_2 : w44.cell? ⟨gb375, 2, none⟩ = some (.int .i64 0) := (blk_cell BK375.out 2).trans rfl; have hcz46_3 : w44.cell? ⟨gb375, 3, none⟩ = some (.int .i64 0) := (blk_cell BK375.out 3).trans rfl; have hcz46_4 : w44.cell? ⟨gb375, 4, none⟩ = some (.int .i64 0) := (blk_cell BK375.out 4).trans rfl; have hcz46_5 : w44.cell? ⟨gb375, 5, none⟩ = some (.int .i64 0) := (blk_cell BK375.out 5).trans rfl; have hcz46_6 : w44.cell? ⟨gb375, 6, none⟩ = some (.int .i64 0) := (blk_cell BK375.out 6).trans rfl; have hcz46_7 : w44.cell? ⟨gb375, 7, none⟩ = some (.int .i64 0) := (blk_cell BK375.out 7).trans rfl; have hcz46_8 : w44.cell? ⟨gb375, 8, none⟩ = some (.int .i64 0) := (blk_cell BK375.out 8).trans rfl; have hfz46_0 := blk_frozen BK375.out 0; have hfz46_1 := blk_frozen BK375.out 1; have hfz46_2 := blk_frozen BK375.out 2; have hfz46_3 := blk_frozen BK375.out 3; have hfz46_4 := blk_frozen BK375.out 4; have hfz46_5 := blk_frozen BK375.out 5; have hfz46_6 := blk_frozen BK375.out 6; have hfz46_7 := blk_frozen BK375.out 7; have hfz46_8 := blk_frozen BK375.out 8) | ((with_reducible refine gate_callee (f := 26) rfl ?_); refine goesL_ (some 55) rfl rfl Tryd.func26 (by kernel_rfl) rfl #[.string ((rd_T43 l0_2 x5_2).f0)] rfl (by (try simp only [List.map_toArray, List.map_cons, List.map_nil]); first | done | rfl | (simp only [List.length_drop, List.length_take]; rfl)) ?_; (with_reducible refine (computusref17_Identifier.calls k2 ((rd_T43 l0_2 x5_2).f0) true _ A38.out).mono ?_); rintro e w' ⟨rfl, ⟨nd, rfl⟩⟩; refine ⟨_, rfl, ?_⟩) | (go_at_call 27; (with_reducible refine (computusref26_In.calls ((rd_T43 l0_2 x5_2).f1) true _ A40.out).mono ?_); rintro e w' ⟨rfl, ⟨nd, rfl⟩⟩))
      go_ret
      exact rt_
     rw [if_neg c42] at H
     have c42b0 : decide (((rd_T43 l0_2 x5_2).f2) < 1) = false := decide_eq_false c42
     clear c42
     by_cases c47 : ((rd_T43 l0_2 x5_2).f2) > 3
     ·rw [if_pos c47] at H
      have c47b0 : decide (3 < ((rd_T43 l0_2 x5_2).f2)) = true := decide_eq_true c47
      clear c47
      obtain rfl := Option.some.inj H
      obtain ⟨hcz48_0, hcz48_1, hcz48_2⟩ := cz3_ BK366.out
      obtain ⟨hfz48_0, hfz48_1, hfz48_2⟩ := fz3_ BK366.out
      have p374 : 0 ≤ (x5_2 : Int) := of_decide_eq_true as_
      have q374 : x5_2 < (l0_2.length : Int) := of_decide_eq_true as_
      obtain ⟨ad374, e374, hx374_0, hx374_1, hx374_2, hx374_3, hx374_4, hx374_5, hx374_6, hx374_7, hx374_8⟩ := at_T43 HR0_2.out x5_2 p374 q374
      cases e374
      replace hx374_0 := cm_ HB.out hx374_0
      replace hx374_1 := cm_ HB.out hx374_1
      replace hx374_2 := cm_ HB.out hx374_2
      replace hx374_3 := cm_ HB.out hx374_3
      replace hx374_4 := cm_ HB.out hx374_4
      replace hx374_5 := cm_ HB.out hx374_5
      replace hx374_6 := cm_ HB.out hx374_6
      replace hx374_7 := cm_ HB.out hx374_7
      replace hx374_8 := cm_ HB.out hx374_8
      replace p374 := eq_true p374
      replace q374 := eq_true q374
      go_wp2_with (first | ((with_reducible refine gate_dst (N := 6) rfl ?_); refine be_ (N := 6) (cs := #[.string (⟨#[]⟩ : ByteArray), .int .i64 0, .int .i64 0, .int .i64 0, .int .i64 0, .int .i64 0, .int .i64 0, .int .i64 0, .int .i64 0]) (t := 43) ?_; intro gb375 hg w49 hbox hb; have BK375 := am_ (hbox); have GW375 := gw_ (w := w) hg; have GE375 := gw_ (w := w) hg; replace HB := bt_ hb; have NB366_375 := ne_ hg BK366; have NB375_366 := nf_ hg BK366; replace BK366 := bw_ BK366 hb; clear hb hbox hg; have hnb50 := NB375_366.out; have hnc50 := NB366_375.out; have hcz51_0 : w49.cell? ⟨gb375, 0, none⟩ = some (.string (⟨#[]⟩ : ByteArray)) := (blk_cell BK375.out 0).trans rfl; have hcz51_1 : w49.cell? ⟨gb375, 1, none⟩ = some (.int .i64 0) := (blk_cell BK375.out 1).trans rfl; have hcz51_2 : w49.cell? ⟨gb375, 2, none⟩ = some (.int .i64 0) := (blk_cell BK375.out 2).trans rfl; have hcz51_3 : w49.cell? ⟨gb375, 3, none⟩ = some (.int .i64 0) := (blk_cell BK375.out 3).trans rfl; have hcz51_4 : w49.cell? ⟨gb375, 4, none⟩ = some (.int .i64 0) := (blk_cell BK375.out 4).trans rfl; have hcz51_5 : w49.cell? ⟨gb375, 5, none⟩ = some (.int .i64 0) := (blk_cell BK375.out 5).trans rfl; have hcz51_6 : w49.cell? ⟨gb375, 6, none⟩ = some (.int .i64 0) := (blk_cell BK375.out 6).trans rfl; have hcz51_7 : w49.cell? ⟨gb375, 7, none⟩ = some (.int .i64 0) := (blk_cell BK375.out 7).trans rfl; have hcz51_8 : w49.cell? ⟨gb375, 8, none⟩ = some (.int .i64 0) := (blk_cell BK375.out 8).trans rfl; have hfz51_0 := blk_frozen BK375.out 0; have hfz51_1 := blk_frozen BK375.out 1; have hfz51_2 := blk_frozen BK375.out 2; have hfz51_3 := blk_frozen BK375.out 3; have hfz51_4 := blk_frozen BK375.out 4; have hfz51_5 := blk_frozen BK375.out 5; have hfz51_6 := blk_frozen BK375.out 6; have hfz51_7 := blk_frozen BK375.out 7; have hfz51_8 := blk_frozen BK375.out 8) | ((with_reducible refine gate_callee (f := 26) rfl ?_); refine goesL_ (some 55) rfl rfl Tryd.func26 (by kernel_rfl) rfl #[.string ((rd_T43 l0_2 x5_2).f0)] rfl (by (try simp only [List.map_toArray, List.map_cons, List.map_nil]); first | done | rfl | (simp only [List.length_drop, List.length_take]; rfl)) ?_; (with_reducible refine (computusref17_Identifier.calls k2 ((rd_T43 l0_2 x5_2).f0) true _ A38.out).mono ?_); rintro e w' ⟨rfl, ⟨nd, rfl⟩⟩; refine ⟨_, rfl, ?_⟩) | (go_at_call 27; (with_reducible refine (computusref26_In.calls ((rd_T43 l0_2 x5_2).f1) true _ A40.out).mono ?_); rintro e w' ⟨rfl, ⟨nd, rfl⟩⟩))
      go_ret
      exact rt_
     rw [if_neg c47] at H
     have c47b0 : decide (3 < ((rd_T43 l0_2 x5_2).f2)) = false := decide_eq_false c47
     clear c47
     obtain ⟨t378, A52, H⟩ := bs_ H
     by_cases c53 : t378 = true
     rotate_left
     ·replace c53 := Bool.eq_false_iff.mpr c53
      subst c53
      replace H := if_ H
      obtain rfl := Option.some.inj H
      obtain ⟨hcz59_0, hcz59_1, hcz59_2⟩ := cz3_ BK366.out
      obtain ⟨hfz59_0, hfz59_1, hfz59_2⟩ := fz3_ BK366.out
      have p374 : 0 ≤ (x5_2 : Int) := of_decide_eq_true as_
      have q374 : x5_2 < (l0_2.length : Int) := of_decide_eq_true as_
      obtain ⟨ad374, e374, hx374_0, hx374_1, hx374_2, hx374_3, hx374_4, hx374_5, hx374_6, hx374_7, hx374_8⟩ := at_T43 HR0_2.out x5_2 p374 q374
      cases e374
      replace hx374_0 := cm_ HB.out hx374_0
      replace hx374_1 := cm_ HB.out hx374_1
      replace hx374_2 := cm_ HB.out hx374_2
      replace hx374_3 := cm_ HB.out hx374_3
      replace hx374_4 := cm_ HB.out hx374_4
      replace hx374_5 := cm_ HB.out hx374_5
      replace hx374_6 := cm_ HB.out hx374_6
      replace hx374_7 := cm_ HB.out hx374_7
      replace hx374_8 := cm_ HB.out hx374_8
      replace p374 := eq_true p374
      replace q374 := eq_true q374
      go_wp2_with (first | ((with_reducible refine gate_dst (N := 6) rfl ?_); refine be_ (N := 6) (cs := #[.string (⟨#[]⟩ : ByteArray), .int .i64 0, .int .i64 0, .int .i64 0, .int .i64 0, .int .i64 0, .int .i64 0, .int .i64 0, .int .i64 0]) (t := 43) ?_; intro gb375 hg w60 hbox hb; have BK375 := am_ (hbox); have GW375 := gw_ (w := w) hg; have GE375 := gw_ (w := w) hg; replace HB := bt_ hb; have NB366_375 := ne_ hg BK366; have NB375_366 := nf_ hg BK366; replace BK366 := bw_ BK366 hb; clear hb hbox hg; have hnb61 := NB375_366.out; have hnc61 := NB366_375.out; have hcz62_0 : w60.cell? ⟨gb375, 0, none⟩ = some (.string (⟨#[]⟩ : ByteArray)) := (blk_cell BK375.out 0).trans rfl; have hcz62_1 : w60.cell? ⟨gb375, 1, none⟩ = some (.int .i64 0) := (blk_cell BK375.out 1).trans rfl; have hcz62_2 : w60.cell? ⟨gb375, 2, none⟩ = some (.int .i64 0) := (blk_cell BK375.out 2).trans rfl; have hcz62_3 : w60.cell? ⟨gb375, 3, none⟩ = some (.int .i64 0) := (blk_cell BK375.out 3).trans rfl; have hcz62_4 : w60.cell? ⟨gb375, 4, none⟩ = some (.int .i64 0) := (blk_cell BK375.out 4).trans rfl; have hcz62_5 : w60.cell? ⟨gb375, 5, none⟩ = some (.int .i64 0) := (blk_cell BK375.out 5).trans rfl; have hcz62_6 : w60.cell? ⟨gb375, 6, none⟩ = some (.int .i64 0) := (blk_cell BK375.out 6).trans rfl; have hcz62_7 : w60.cell? ⟨gb375, 7, none⟩ = some (.int .i64 0) := (blk_cell BK375.out 7).trans rfl; have hcz62_8 : w60.cell? ⟨gb375, 8, none⟩ = some (.int .i64 0) := (blk_cell BK375.out 8).trans rfl; have hfz62_0 := blk_frozen BK375.out 0; have hfz62_1 := blk_frozen BK375.out 1; have hfz62_2 := blk_frozen BK375.out 2; have hfz62_3 := blk_frozen BK375.out 3; have hfz62_4 := blk_frozen BK375.out 4; have hfz62_5 := blk_frozen BK375.out 5; have hfz62_6 := blk_frozen BK375.out 6; have hfz62_7 := blk_frozen BK375.out 7; have hfz62_8 := blk_frozen BK375.out 8) | ((with_reducible refine gate_callee (f := 26) rfl ?_); refine goesL_ (some 55) rfl rfl Tryd.func26 (by kernel_rfl) rfl #[.string ((rd_T43 l0_2 x5_2).f0)] rfl (by (try simp only [List.map_toArray, List.map_cons, List.map_nil]); first | done | rfl | (simp only [List.length_drop, List.length_take]; rfl)) ?_; (with_reducible refine (computusref17_Identifier.calls k2 ((rd_T43 l0_2 x5_2).f0) true _ A38.out).mono ?_); rintro e w' ⟨rfl, ⟨nd, rfl⟩⟩; refine ⟨_, rfl, ?_⟩) | (go_at_call 27; (with_reducible refine (computusref26_In.calls ((rd_T43 l0_2 x5_2).f1) true _ A40.out).mono ?_); rintro e w' ⟨rfl, ⟨nd, rfl⟩⟩) | (go_at_call 28; (with_reducible refine (computusref26_printableAnchor.calls k2 ((rd_T43 l0_2 x5_2).f3.f0) ((rd_T43 l0_2 x5_2).f3.f1) ((rd_T43 l0_2 x5_2).f3.f2) ((rd_T43 l0_2 x5_2).f3.f3) ((rd_T43 l0_2 x5_2).f3.f4) ((rd_T43 l0_2 x5_2).f3.f5) false _ A52.out).mono ?_); rintro e w63 ⟨rfl, hb⟩; replace BK366 := am_ (blk_below (g := gb366) (o := .cells #[.int .i64 a0_0, .slice A0_1 l0_1.length c0_1, .slice (some ad374) l0_2.length c0_2] 26 (0, 0)) (by refine bp_ ?_; refine blk_far ?_ NB366_375.out _; refine bp_ ?_; refine blk_far ?_ NB366_375.out _; refine bp_ ?_; refine blk_far ?_ NB366_375.out _; refine bp_ ?_; refine blk_far ?_ NB366_375.out _; refine bp_ ?_; refine blk_far ?_ NB366_375.out _; refine bp_ ?_; refine blk_far ?_ NB366_375.out _; refine bp_ ?_; refine blk_far ?_ NB366_375.out _; refine bp_ ?_; refine blk_far ?_ NB366_375.out _; refine bp_ ?_; refine blk_far ?_ NB366_375.out _; exact bk_ BK366.out) hb); replace BK375 := am_ (blk_below (g := gb375) (o := .cells #[.string ((rd_T43 l0_2 x5_2).f0), .int .i64 ((rd_T43 l0_2 x5_2).f1), .int .i64 ((rd_T43 l0_2 x5_2).f2), .int .i64 ((rd_T43 l0_2 x5_2).f3.f0), .int .i64 ((rd_T43 l0_2 x5_2).f3.f1), .int .i64 ((rd_T43 l0_2 x5_2).f3.f2), .int .i64 ((rd_T43 l0_2 x5_2).f3.f3), .int .i64 ((rd_T43 l0_2 x5_2).f3.f4), .int .i64 ((rd_T43 l0_2 x5_2).f3.f5)] 43 (0, 0)) (by refine bp_ ?_; refine blk_put (cs := #[.string ((rd_T43 l0_2 x5_2).f0), .int .i64 ((rd_T43 l0_2 x5_2).f1), .int .i64 ((rd_T43 l0_2 x5_2).f2), .int .i64 ((rd_T43 l0_2 x5_2).f3.f0), .int .i64 ((rd_T43 l0_2 x5_2).f3.f1), .int .i64 ((rd_T43 l0_2 x5_2).f3.f2), .int .i64 ((rd_T43 l0_2 x5_2).f3.f3), .int .i64 ((rd_T43 l0_2 x5_2).f3.f4), .int .i64 0]) ?_ 8 _ rfl; refine bp_ ?_; refine blk_put (cs := #[.string ((rd_T43 l0_2 x5_2).f0), .int .i64 ((rd_T43 l0_2 x5_2).f1), .int .i64 ((rd_T43 l0_2 x5_2).f2), .int .i64 ((rd_T43 l0_2 x5_2).f3.f0), .int .i64 ((rd_T43 l0_2 x5_2).f3.f1), .int .i64 ((rd_T43 l0_2 x5_2).f3.f2), .int .i64 ((rd_T43 l0_2 x5_2).f3.f3), .int .i64 0, .int .i64 0]) ?_ 7 _ rfl; refine bp_ ?_; refine blk_put (cs := #[.string ((rd_T43 l0_2 x5_2).f0), .int .i64 ((rd_T43 l0_2 x5_2).f1), .int .i64 ((rd_T43 l0_2 x5_2).f2), .int .i64 ((rd_T43 l0_2 x5_2).f3.f0), .int .i64 ((rd_T43 l0_2 x5_2).f3.f1), .int .i64 ((rd_T43 l0_2 x5_2).f3.f2), .int .i64 0, .int .i64 0, .int .i64 0]) ?_ 6 _ rfl; refine bp_ ?_; refine blk_put (cs := #[.string ((rd_T43 l0_2 x5_2).f0), .int .i64 ((rd_T43 l0_2 x5_2).f1), .int .i64 ((rd_T43 l0_2 x5_2).f2), .int .i64 ((rd_T43 l0_2 x5_2).f3.f0), .int .i64 ((rd_T43 l0_2 x5_2).f3.f1), .int .i64 0, .int .i64 0, .int .i64 0, .int .i64 0]) ?_ 5 _ rfl; refine bp_ ?_; refine blk_put (cs := #[.string ((rd_T43 l0_2 x5_2).f0), .int .i64 ((rd_T43 l0_2 x5_2).f1), .int .i64 ((rd_T43 l0_2 x5_2).f2), .int .i64 ((rd_T43 l0_2 x5_2).f3.f0), .int .i64 0, .int .i64 0, .int .i64 0, .int .i64 0, .int .i64 0]) ?_ 4 _ rfl; refine bp_ ?_; refine blk_put (cs := #[.string ((rd_T43 l0_2 x5_2).f0), .int .i64 ((rd_T43 l0_2 x5_2).f1), .int .i64 ((rd_T43 l0_2 x5_2).f2), .int .i64 0, .int .i64 0, .int .i64 0, .int .i64 0, .int .i64 0, .int .i64 0]) ?_ 3 _ rfl; refine bp_ ?_; refine blk_put (cs := #[.string ((rd_T43 l0_2 x5_2).f0), .int .i64 ((rd_T43 l0_2 x5_2).f1), .int .i64 0, .int .i64 0, .int .i64 0, .int .i64 0, .int .i64 0, .int .i64 0, .int .i64 0]) ?_ 2 _ rfl; refine bp_ ?_; refine blk_put (cs := #[.string ((rd_T43 l0_2 x5_2).f0), .int .i64 0, .int .i64 0, .int .i64 0, .int .i64 0, .int .i64 0, .int .i64 0, .int .i64 0, .int .i64 0]) ?_ 1 _ rfl; refine bp_ ?_; refine blk_put (cs := #[.string (⟨#[]⟩ : ByteArray), .int .i64 0, .int .i64 0, .int .i64 0, .int .i64 0, .int .i64 0, .int .i64 0, .int .i64 0, .int .i64 0]) ?_ 0 _ rfl; exact bk_ BK375.out) hb); replace HB := bt_ hb; (try clear hb); (try clear hi)))
      go_ret
      exact rt_
     subst c53
     replace H := it_ H
     have H' := am_ H
     clear H
     obtain ⟨hcz54_0, hcz54_1, hcz54_2⟩ := cz3_ BK366.out
     obtain ⟨hfz54_0, hfz54_1, hfz54_2⟩ := fz3_ BK366.out
     have p374 : 0 ≤ (x5_2 : Int) := of_decide_eq_true as_
     have q374 : x5_2 < (l0_2.length : Int) := of_decide_eq_true as_
     obtain ⟨ad374, e374, hx374_0, hx374_1, hx374_2, hx374_3, hx374_4, hx374_5, hx374_6, hx374_7, hx374_8⟩ := at_T43 HR0_2.out x5_2 p374 q374
     cases e374
     replace hx374_0 := cm_ HB.out hx374_0
     replace hx374_1 := cm_ HB.out hx374_1
     replace hx374_2 := cm_ HB.out hx374_2
     replace hx374_3 := cm_ HB.out hx374_3
     replace hx374_4 := cm_ HB.out hx374_4
     replace hx374_5 := cm_ HB.out hx374_5
     replace hx374_6 := cm_ HB.out hx374_6
     replace hx374_7 := cm_ HB.out hx374_7
     replace hx374_8 := cm_ HB.out hx374_8
     replace p374 := eq_true p374
     replace q374 := eq_true q374
     go_wp2_with (first | ((with_reducible refine gate_dst (N := 6) rfl ?_); refine be_ (N := 6) (cs := #[.string (⟨#[]⟩ : ByteArray), .int .i64 0, .int .i64 0, .int .i64 0, .int .i64 0, .int .i64 0, .int .i64 0, .int .i64 0, .int .i64 0]) (t := 43) ?_; intro gb375 hg w55 hbox hb; have BK375 := am_ (hbox); have GW375 := gw_ (w := w) hg; have GE375 := gw_ (w := w) hg; replace HB := bt_ hb; have NB366_375 := ne_ hg BK366; have NB375_366 := nf_ hg BK366; replace BK366 := bw_ BK366 hb; clear hb hbox hg; have hnb56 := NB375_366.out; have hnc56 := NB366_375.out; have hcz57_0 : w55.cell? ⟨gb375, 0, none⟩ = some (.string (⟨#[]⟩ : ByteArray)) := (blk_cell BK375.out 0).trans rfl; have hcz57_1 : w55.cell? ⟨gb375, 1, none⟩ = some (.int .i64 0) := (blk_cell BK375.out 1).trans rfl; have hcz57_2 : w55.cell? ⟨gb375, 2, none⟩ = some (.int .i64 0) := (blk_cell BK375.out 2).trans rfl; have hcz57_3 : w55.cell? ⟨gb375, 3, none⟩ = some (.int .i64 0) := (blk_cell BK375.out 3).trans rfl; have hcz57_4 : w55.cell? ⟨gb375, 4, none⟩ = some (.int .i64 0) := (blk_cell BK375.out 4).trans rfl; have hcz57_5 : w55.cell? ⟨gb375, 5, none⟩ = some (.int .i64 0) := (blk_cell BK375.out 5).trans rfl; have hcz57_6 : w55.cell? ⟨gb375, 6, none⟩ = some (.int .i64 0) := (blk_cell BK375.out 6).trans rfl; have hcz57_7 : w55.cell? ⟨gb375, 7, none⟩ = some (.int .i64 0) := (blk_cell BK375.out 7).trans rfl; have hcz57_8 : w55.cell? ⟨gb375, 8, none⟩ = some (.int .i64 0) := (blk_cell BK375.out 8).trans rfl; have hfz57_0 := blk_frozen BK375.out 0; have hfz57_1 := blk_frozen BK375.out 1; have hfz57_2 := blk_frozen BK375.out 2; have hfz57_3 := blk_frozen BK375.out 3; have hfz57_4 := blk_frozen BK375.out 4; have hfz57_5 := blk_frozen BK375.out 5; have hfz57_6 := blk_frozen BK375.out 6; have hfz57_7 := blk_frozen BK375.out 7; have hfz57_8 := blk_frozen BK375.out 8) | ((with_reducible refine gate_callee (f := 26) rfl ?_); refine goesL_ (some 55) rfl rfl Tryd.func26 (by kernel_rfl) rfl #[.string ((rd_T43 l0_2 x5_2).f0)] rfl (by (try simp only [List.map_toArray, List.map_cons, List.map_nil]); first | done | rfl | (simp only [List.length_drop, List.length_take]; rfl)) ?_; (with_reducible refine (computusref17_Identifier.calls k2 ((rd_T43 l0_2 x5_2).f0) true _ A38.out).mono ?_); rintro e w' ⟨rfl, ⟨nd, rfl⟩⟩; refine ⟨_, rfl, ?_⟩) | (go_at_call 27; (with_reducible refine (computusref26_In.calls ((rd_T43 l0_2 x5_2).f1) true _ A40.out).mono ?_); rintro e w' ⟨rfl, ⟨nd, rfl⟩⟩) | (go_at_call 28; (with_reducible refine (computusref26_printableAnchor.calls k2 ((rd_T43 l0_2 x5_2).f3.f0) ((rd_T43 l0_2 x5_2).f3.f1) ((rd_T43 l0_2 x5_2).f3.f2) ((rd_T43 l0_2 x5_2).f3.f3) ((rd_T43 l0_2 x5_2).f3.f4) ((rd_T43 l0_2 x5_2).f3.f5) true _ A52.out).mono ?_); rintro e w58 ⟨rfl, hb⟩; replace BK366 := am_ (blk_below (g := gb366) (o := .cells #[.int .i64 a0_0, .slice A0_1 l0_1.length c0_1, .slice (some ad374) l0_2.length c0_2] 26 (0, 0)) (by refine bp_ ?_; refine blk_far ?_ NB366_375.out _; refine bp_ ?_; refine blk_far ?_ NB366_375.out _; refine bp_ ?_; refine blk_far ?_ NB366_375.out _; refine bp_ ?_; refine blk_far ?_ NB366_375.out _; refine bp_ ?_; refine blk_far ?_ NB366_375.out _; refine bp_ ?_; refine blk_far ?_ NB366_375.out _; refine bp_ ?_; refine blk_far ?_ NB366_375.out _; refine bp_ ?_; refine blk_far ?_ NB366_375.out _; refine bp_ ?_; refine blk_far ?_ NB366_375.out _; exact bk_ BK366.out) hb); replace BK375 := am_ (blk_below (g := gb375) (o := .cells #[.string ((rd_T43 l0_2 x5_2).f0), .int .i64 ((rd_T43 l0_2 x5_2).f1), .int .i64 ((rd_T43 l0_2 x5_2).f2), .int .i64 ((rd_T43 l0_2 x5_2).f3.f0), .int .i64 ((rd_T43 l0_2 x5_2).f3.f1), .int .i64 ((rd_T43 l0_2 x5_2).f3.f2), .int .i64 ((rd_T43 l0_2 x5_2).f3.f3), .int .i64 ((rd_T43 l0_2 x5_2).f3.f4), .int .i64 ((rd_T43 l0_2 x5_2).f3.f5)] 43 (0, 0)) (by refine bp_ ?_; refine blk_put (cs := #[.string ((rd_T43 l0_2 x5_2).f0), .int .i64 ((rd_T43 l0_2 x5_2).f1), .int .i64 ((rd_T43 l0_2 x5_2).f2), .int .i64 ((rd_T43 l0_2 x5_2).f3.f0), .int .i64 ((rd_T43 l0_2 x5_2).f3.f1), .int .i64 ((rd_T43 l0_2 x5_2).f3.f2), .int .i64 ((rd_T43 l0_2 x5_2).f3.f3), .int .i64 ((rd_T43 l0_2 x5_2).f3.f4), .int .i64 0]) ?_ 8 _ rfl; refine bp_ ?_; refine blk_put (cs := #[.string ((rd_T43 l0_2 x5_2).f0), .int .i64 ((rd_T43 l0_2 x5_2).f1), .int .i64 ((rd_T43 l0_2 x5_2).f2), .int .i64 ((rd_T43 l0_2 x5_2).f3.f0), .int .i64 ((rd_T43 l0_2 x5_2).f3.f1), .int .i64 ((rd_T43 l0_2 x5_2).f3.f2), .int .i64 ((rd_T43 l0_2 x5_2).f3.f3), .int .i64 0, .int .i64 0]) ?_ 7 _ rfl; refine bp_ ?_; refine blk_put (cs := #[.string ((rd_T43 l0_2 x5_2).f0), .int .i64 ((rd_T43 l0_2 x5_2).f1), .int .i64 ((rd_T43 l0_2 x5_2).f2), .int .i64 ((rd_T43 l0_2 x5_2).f3.f0), .int .i64 ((rd_T43 l0_2 x5_2).f3.f1), .int .i64 ((rd_T43 l0_2 x5_2).f3.f2), .int .i64 0, .int .i64 0, .int .i64 0]) ?_ 6 _ rfl; refine bp_ ?_; refine blk_put (cs := #[.string ((rd_T43 l0_2 x5_2).f0), .int .i64 ((rd_T43 l0_2 x5_2).f1), .int .i64 ((rd_T43 l0_2 x5_2).f2), .int .i64 ((rd_T43 l0_2 x5_2).f3.f0), .int .i64 ((rd_T43 l0_2 x5_2).f3.f1), .int .i64 0, .int .i64 0, .int .i64 0, .int .i64 0]) ?_ 5 _ rfl; refine bp_ ?_; refine blk_put (cs := #[.string ((rd_T43 l0_2 x5_2).f0), .int .i64 ((rd_T43 l0_2 x5_2).f1), .int .i64 ((rd_T43 l0_2 x5_2).f2), .int .i64 ((rd_T43 l0_2 x5_2).f3.f0), .int .i64 0, .int .i64 0, .int .i64 0, .int .i64 0, .int .i64 0]) ?_ 4 _ rfl; refine bp_ ?_; refine blk_put (cs := #[.string ((rd_T43 l0_2 x5_2).f0), .int .i64 ((rd_T43 l0_2 x5_2).f1), .int .i64 ((rd_T43 l0_2 x5_2).f2), .int .i64 0, .int .i64 0, .int .i64 0, .int .i64 0, .int .i64 0, .int .i64 0]) ?_ 3 _ rfl; refine bp_ ?_; refine blk_put (cs := #[.string ((rd_T43 l0_2 x5_2).f0), .int .i64 ((rd_T43 l0_2 x5_2).f1), .int .i64 0, .int .i64 0, .int .i64 0, .int .i64 0, .int .i64 0, .int .i64 0, .int .i64 0]) ?_ 2 _ rfl; refine bp_ ?_; refine blk_put (cs := #[.string ((rd_T43 l0_2 x5_2).f0), .int .i64 0, .int .i64 0, .int .i64 0, .int .i64 0, .int .i64 0, .int .i64 0, .int .i64 0, .int .i64 0]) ?_ 1 _ rfl; refine bp_ ?_; refine blk_put (cs := #[.string (⟨#[]⟩ : ByteArray), .int .i64 0, .int .i64 0, .int .i64 0, .int .i64 0, .int .i64 0, .int .i64 0, .int .i64 0, .int .i64 0]) ?_ 0 _ rfl; exact bk_ BK375.out) hb); replace HB := bt_ hb; (try clear hb); (try clear hi)))
     go_roundg k2
     case measure => have := HK1.out; have := HK2.out; omega
     case rel => exact ⟨(wrap64 (x5_2 + 1)), rs_, H', ⟨by have := HK1.out; have := HK2.out; omega⟩, ⟨bk_ BK366.out⟩, ⟨bh_⟩⟩
def computusref26_digits.f : Nat → Int → Option (ByteArray)
 | 0, _ => none
 | k + 1, a0 => if 0 ≤ (Int.tmod a0 10) then (if (Int.tmod a0 10) ≤ (wrap64 ((Int.tmod a0 10) + 1)) then (if (wrap64 ((Int.tmod a0 10) + 1)) ≤ 10 then (if a0 < 10 then (some ((⟨#[48, 49, 50, 51, 52, 53, 54, 55, 56, 57]⟩ : ByteArray).extract ((Int.tmod a0 10) : Int).toNat ((wrap64 ((Int.tmod a0 10) + 1)) : Int).toNat)) else ((computusref26_digits.f k (wrap64 (Int.tdiv a0 10))).bind fun t379 => (if t379.size + ((⟨#[48, 49, 50, 51, 52, 53, 54, 55, 56, 57]⟩ : ByteArray).extract ((Int.tmod a0 10) : Int).toNat ((wrap64 ((Int.tmod a0 10) + 1)) : Int).toNat).size ≤ 9223372036854775807 then (some (t379 ++ ((⟨#[48, 49, 50, 51, 52, 53, 54, 55, 56, 57]⟩ : ByteArray).extract ((Int.tmod a0 10) : Int).toNat ((wrap64 ((Int.tmod a0 10) + 1)) : Int).toNat))) else (none)))) else (none)) else (none)) else (none)
theorem computusref26_digits.calls (k : Nat) : ∀ (a0 : Int) (r : ByteArray) (w : World) (h : computusref26_digits.f k a0 = some r),
  Calls Tryd.prog 51 #[.int .i64 a0] w fun e w' => e = .returned (.string r) ∧ Drawn0 w w' := by
 induction k using Nat.strongRecOn with
 | _ k ih =>
 intro a0 r w h
 cases k with
 | zero => exact absurd h (by simp [computusref26_digits.f])
 | succ k =>
 simp only [computusref26_digits.f] at h
 have H : (if 0 ≤ (Int.tmod a0 10) then (if (Int.tmod a0 10) ≤ (wrap64 ((Int.tmod a0 10) + 1)) then (if (wrap64 ((Int.tmod a0 10) + 1)) ≤ 10 then (if a0 < 10 then (some ((⟨#[48, 49, 50, 51, 52, 53, 54, 55, 56, 57]⟩ : ByteArray).extract ((Int.tmod a0 10) : Int).toNat ((wrap64 ((Int.tmod a0 10) + 1)) : Int).toNat)) else ((computusref26_digits.f k (wrap64 (Int.tdiv a0 10))).bind fun t379 => (if t379.size + ((⟨#[48, 49, 50, 51, 52, 53, 54, 55, 56, 57]⟩ : ByteArray).extract ((Int.tmod a0 10) : Int).toNat ((wrap64 ((Int.tmod a0 10) + 1)) : Int).toNat).size ≤ 9223372036854775807 then (some (t379 ++ ((⟨#[48, 49, 50, 51, 52, 53, 54, 55, 56, 57]⟩ : ByteArray).extract ((Int.tmod a0 10) : Int).toNat ((wrap64 ((Int.tmod a0 10) + 1)) : Int).toNat))) else (none)))) else (none)) else (none)) else (none)) = some r := h
 clear h
 obtain ⟨ji2, hji2⟩ : ∃ j_ : Int, (Int.tmod a0 10) = j_ := ⟨_, rfl⟩
 replace H : (if 0 ≤ (ji2) then (if (ji2) ≤ (wrap64 ((ji2) + 1)) then (if (wrap64 ((ji2) + 1)) ≤ 10 then (if a0 < 10 then (some ((⟨#[48, 49, 50, 51, 52, 53, 54, 55, 56, 57]⟩ : ByteArray).extract ((ji2) : Int).toNat ((wrap64 ((ji2) + 1)) : Int).toNat)) else ((computusref26_digits.f k (wrap64 (Int.tdiv a0 10))).bind fun t379 => (if t379.size + ((⟨#[48, 49, 50, 51, 52, 53, 54, 55, 56, 57]⟩ : ByteArray).extract ((ji2) : Int).toNat ((wrap64 ((ji2) + 1)) : Int).toNat).size ≤ 9223372036854775807 then (some (t379 ++ ((⟨#[48, 49, 50, 51, 52, 53, 54, 55, 56, 57]⟩ : ByteArray).extract ((ji2) : Int).toNat ((wrap64 ((ji2) + 1)) : Int).toNat))) else (none)))) else (none)) else (none)) else (none)) = some r := by first | (rw [hji2] at H; exact H) | (simp only [hji2] at H ⊢; exact H)
 by_cases c3 : 0 ≤ (ji2)
 ·rw [if_pos c3] at H
  have c3b0 := eq_true c3
  have c3b1 : decide (0 ≤ (ji2)) = true := decide_eq_true c3
  clear c3
  by_cases c4 : (ji2) ≤ (wrap64 ((ji2) + 1))
  ·rw [if_pos c4] at H
   have c4b0 := eq_true c4
   have c4b1 : decide ((ji2) ≤ (wrap64 ((ji2) + 1))) = true := decide_eq_true c4
   by_cases c5 : (wrap64 ((ji2) + 1)) ≤ 10
   ·rw [if_pos c5] at H
    have c5b0 := eq_true c5
    have c5b1 : decide ((wrap64 ((ji2) + 1)) ≤ 10) = true := decide_eq_true c5
    by_cases c6 : a0 < 10
    ·rw [if_pos c6] at H
     have c6b0 : decide (a0 < 10) = true := decide_eq_true c6
     clear c6
     obtain rfl := Option.some.inj H
     go_enter Tryd.func51, Tryd.ntmps51
     go_wp2
     go_ret
     exact ⟨by first | rfl | (simp; done) | (simp only [← hji2] <;> (first | rfl | simp)) | (simp [*]; done), by repeat (first | exact Drawn0.refl _ | apply Drawn0.step)⟩
    ·rw [if_neg c6] at H
     have c6b0 : decide (a0 < 10) = false := decide_eq_false c6
     clear c6
     replace H := Option.bind_eq_some_iff.mp H
     obtain ⟨t379, A70, H⟩ := H
     replace H : (if t379.size + ((⟨#[48, 49, 50, 51, 52, 53, 54, 55, 56, 57]⟩ : ByteArray).extract ((ji2) : Int).toNat ((wrap64 ((ji2) + 1)) : Int).toNat).size ≤ 9223372036854775807 then (some (t379 ++ ((⟨#[48, 49, 50, 51, 52, 53, 54, 55, 56, 57]⟩ : ByteArray).extract ((ji2) : Int).toNat ((wrap64 ((ji2) + 1)) : Int).toNat))) else (none)) = some r := H
     have A7 := Aside0.mk A70
     clear A70
     by_cases c8 : t379.size + ((⟨#[48, 49, 50, 51, 52, 53, 54, 55, 56, 57]⟩ : ByteArray).extract ((ji2) : Int).toNat ((wrap64 ((ji2) + 1)) : Int).toNat).size ≤ 9223372036854775807
     ·rw [if_pos c8] at H
      have c8b0 := eq_true c8
      have c8b1 : decide (t379.size + ((⟨#[48, 49, 50, 51, 52, 53, 54, 55, 56, 57]⟩ : ByteArray).extract ((ji2) : Int).toNat ((wrap64 ((ji2) + 1)) : Int).toNat).size ≤ 9223372036854775807) = true := decide_eq_true c8
      try have c8b2 : (9223372036854775807 < t379.size + ((⟨#[48, 49, 50, 51, 52, 53, 54, 55, 56, 57]⟩ : ByteArray).extract ((ji2) : Int).toNat ((wrap64 ((ji2) + 1)) : Int).toNat).size) = False := eq_false (Nat.not_lt.2 c8)
      obtain rfl := Option.some.inj H
      go_enter Tryd.func51, Tryd.ntmps51
      go_wp2_with (first | ((with_reducible refine gate_callee (f := 51) rfl ?_); refine goesL_ (some 17) rfl rfl Tryd.func51 (by kernel_rfl) rfl #[.int .i64 (wrap64 (Int.tdiv a0 10))] rfl (by (try simp only [List.map_toArray, List.map_cons, List.map_nil]); first | done | rfl | (simp only [List.length_drop, List.length_take]; rfl)) ?_; (with_reducible refine (ih k (by omega) (wrap64 (Int.tdiv a0 10)) t379 _ A7.out).mono ?_); rintro e w' ⟨rfl, ⟨nd, rfl⟩⟩; refine ⟨_, rfl, ?_⟩))
      go_ret
      exact ⟨by first | rfl | (simp; done) | (simp only [← hji2] <;> (first | rfl | simp)) | (simp [*]; done), by repeat (first | exact Drawn0.refl _ | apply Drawn0.step)⟩
     ·rw [if_neg c8] at H
      exact absurd H (by simp)
   ·rw [if_neg c5] at H
    exact absurd H (by simp)
  ·rw [if_neg c4] at H
   exact absurd H (by simp)
 ·rw [if_neg c3] at H
  exact absurd H (by simp)
def computusref26_Num.f (k : Nat) (a0 : Int) : Option (ByteArray) := if a0 < 0 then ((computusref26_digits.f k (wrap64 (-a0))).bind fun t380 => (if 1 + t380.size ≤ 9223372036854775807 then (some ((⟨#[45]⟩ : ByteArray) ++ t380)) else (none))) else ((computusref26_digits.f k a0).bind fun t381 => (some t381))
theorem computusref26_Num.calls (k : Nat) (a0 : Int) (r : ByteArray) (w : World) (h : computusref26_Num.f k a0 = some r) :
  Calls Tryd.prog 33 #[.int .i64 a0] w fun e w' => e = .returned (.string r) ∧ Drawn0 w w' := by
 have H := h
 clear h
 unfold computusref26_Num.f at H
 by_cases c2 : a0 < 0
 rotate_left
 ·rw [if_neg c2] at H
  have c2b0 : decide (a0 < 0) = false := decide_eq_false c2
  clear c2
  obtain ⟨t381, A5, H⟩ := bs_ H
  obtain rfl := Option.some.inj H
  go_enter Tryd.func33, Tryd.ntmps33
  go_wp2_with (first | ((with_reducible refine gate_callee (f := 51) rfl ?_); refine goesL_ (some 10) rfl rfl Tryd.func51 (by kernel_rfl) rfl #[.int .i64 a0] rfl (by (try simp only [List.map_toArray, List.map_cons, List.map_nil]); first | done | rfl | (simp only [List.length_drop, List.length_take]; rfl)) ?_; (with_reducible refine (computusref26_digits.calls k a0 t381 _ A5.out).mono ?_); rintro e w' ⟨rfl, ⟨nd, rfl⟩⟩; refine ⟨_, rfl, ?_⟩))
  go_ret
  exact ⟨by first | rfl | (simp; done) | (simp [*]; done), by repeat (first | exact Drawn0.refl _ | apply Drawn0.step)⟩
 rw [if_pos c2] at H
 have c2b0 : decide (a0 < 0) = true := decide_eq_true c2
 clear c2
 obtain ⟨t380, A3, H⟩ := bs_ H
 by_cases c4 : 1 + t380.size ≤ 9223372036854775807
 rotate_left
 ·rw [if_neg c4] at H
  exact absurd H (by simp)
 rw [if_pos c4] at H
 have c4b0 := eq_true c4
 have c4b1 : decide (1 + t380.size ≤ 9223372036854775807) = true := decide_eq_true c4
 try have c4b2 : (9223372036854775807 < 1 + t380.size) = False := eq_false (Nat.not_lt.2 c4)
 obtain rfl := Option.some.inj H
 go_enter Tryd.func33, Tryd.ntmps33
 go_wp2_with (first | ((with_reducible refine gate_callee (f := 51) rfl ?_); refine goesL_ (some 7) rfl rfl Tryd.func51 (by kernel_rfl) rfl #[.int .i64 (wrap64 (-a0))] rfl (by (try simp only [List.map_toArray, List.map_cons, List.map_nil]); first | done | rfl | (simp only [List.length_drop, List.length_take]; rfl)) ?_; (with_reducible refine (computusref26_digits.calls k (wrap64 (-a0)) t380 _ A3.out).mono ?_); rintro e w' ⟨rfl, ⟨nd, rfl⟩⟩; refine ⟨_, rfl, ?_⟩))
 go_ret
 exact ⟨by first | rfl | (simp; done) | (simp [*]; done), by repeat (first | exact Drawn0.refl _ | apply Drawn0.step)⟩
def computusref04_Name.f (a0 : Int) : Option (ByteArray) := if a0 = 0 then (some (⟨#[115, 117, 110, 100, 97, 121]⟩ : ByteArray)) else (if a0 = 1 then (some (⟨#[109, 111, 110, 100, 97, 121]⟩ : ByteArray)) else (if a0 = 2 then (some (⟨#[116, 117, 101, 115, 100, 97, 121]⟩ : ByteArray)) else (if a0 = 3 then (some (⟨#[119, 101, 100, 110, 101, 115, 100, 97, 121]⟩ : ByteArray)) else (if a0 = 4 then (some (⟨#[116, 104, 117, 114, 115, 100, 97, 121]⟩ : ByteArray)) else (if a0 = 5 then (some (⟨#[102, 114, 105, 100, 97, 121]⟩ : ByteArray)) else (if a0 = 6 then (some (⟨#[115, 97, 116, 117, 114, 100, 97, 121]⟩ : ByteArray)) else (some (⟨#[]⟩ : ByteArray))))))))
theorem computusref04_Name.calls (a0 : Int) (r : ByteArray) (w : World) (h : computusref04_Name.f a0 = some r) :
  Calls Tryd.prog 52 #[.int .i64 a0] w fun e w' => e = .returned (.string r) ∧ Drawn0 w w' := by
 have H := h
 clear h
 unfold computusref04_Name.f at H
 by_cases c2 : a0 = 0
 ·rw [if_pos c2] at H
  have c2b0 : (a0 == 0) = true := beq_iff_eq.mpr c2
  have c2b1 : (a0 != 0) = false := bne_eq_false_iff_eq.mpr c2
  clear c2
  obtain rfl := Option.some.inj H
  go_enter Tryd.func52, Tryd.ntmps52
  go_wp2
  go_ret
  exact ⟨by first | rfl | (simp; done) | (simp [*]; done), by repeat (first | exact Drawn0.refl _ | apply Drawn0.step)⟩
 rw [if_neg c2] at H
 have c2b0 : (a0 == 0) = false := beq_eq_false_iff_ne.mpr c2
 have c2b1 : (a0 != 0) = true := bne_iff_ne.mpr c2
 by_cases c3 : a0 = 1
 ·rw [if_pos c3] at H
  have c3b0 : (a0 == 1) = true := beq_iff_eq.mpr c3
  have c3b1 : (a0 != 1) = false := bne_eq_false_iff_eq.mpr c3
  clear c3
  obtain rfl := Option.some.inj H
  go_enter Tryd.func52, Tryd.ntmps52
  go_wp2
  go_ret
  exact ⟨by first | rfl | (simp; done) | (simp [*]; done), by repeat (first | exact Drawn0.refl _ | apply Drawn0.step)⟩
 rw [if_neg c3] at H
 have c3b0 : (a0 == 1) = false := beq_eq_false_iff_ne.mpr c3
 have c3b1 : (a0 != 1) = true := bne_iff_ne.mpr c3
 by_cases c4 : a0 = 2
 ·rw [if_pos c4] at H
  have c4b0 : (a0 == 2) = true := beq_iff_eq.mpr c4
  have c4b1 : (a0 != 2) = false := bne_eq_false_iff_eq.mpr c4
  clear c4
  obtain rfl := Option.some.inj H
  go_enter Tryd.func52, Tryd.ntmps52
  go_wp2
  go_ret
  exact ⟨by first | rfl | (simp; done) | (simp [*]; done), by repeat (first | exact Drawn0.refl _ | apply Drawn0.step)⟩
 rw [if_neg c4] at H
 have c4b0 : (a0 == 2) = false := beq_eq_false_iff_ne.mpr c4
 have c4b1 : (a0 != 2) = true := bne_iff_ne.mpr c4
 by_cases c5 : a0 = 3
 ·rw [if_pos c5] at H
  have c5b0 : (a0 == 3) = true := beq_iff_eq.mpr c5
  have c5b1 : (a0 != 3) = false := bne_eq_false_iff_eq.mpr c5
  clear c5
  obtain rfl := Option.some.inj H
  go_enter Tryd.func52, Tryd.ntmps52
  go_wp2
  go_ret
  exact ⟨by first | rfl | (simp; done) | (simp [*]; done), by repeat (first | exact Drawn0.refl _ | apply Drawn0.step)⟩
 rw [if_neg c5] at H
 have c5b0 : (a0 == 3) = false := beq_eq_false_iff_ne.mpr c5
 have c5b1 : (a0 != 3) = true := bne_iff_ne.mpr c5
 by_cases c6 : a0 = 4
 ·rw [if_pos c6] at H
  have c6b0 : (a0 == 4) = true := beq_iff_eq.mpr c6
  have c6b1 : (a0 != 4) = false := bne_eq_false_iff_eq.mpr c6
  clear c6
  obtain rfl := Option.some.inj H
  go_enter Tryd.func52, Tryd.ntmps52
  go_wp2
  go_ret
  exact ⟨by first | rfl | (simp; done) | (simp [*]; done), by repeat (first | exact Drawn0.refl _ | apply Drawn0.step)⟩
 rw [if_neg c6] at H
 have c6b0 : (a0 == 4) = false := beq_eq_false_iff_ne.mpr c6
 have c6b1 : (a0 != 4) = true := bne_iff_ne.mpr c6
 by_cases c7 : a0 = 5
 ·rw [if_pos c7] at H
  have c7b0 : (a0 == 5) = true := beq_iff_eq.mpr c7
  have c7b1 : (a0 != 5) = false := bne_eq_false_iff_eq.mpr c7
  clear c7
  obtain rfl := Option.some.inj H
  go_enter Tryd.func52, Tryd.ntmps52
  go_wp2
  go_ret
  exact ⟨by first | rfl | (simp; done) | (simp [*]; done), by repeat (first | exact Drawn0.refl _ | apply Drawn0.step)⟩
 rw [if_neg c7] at H
 have c7b0 : (a0 == 5) = false := beq_eq_false_iff_ne.mpr c7
 have c7b1 : (a0 != 5) = true := bne_iff_ne.mpr c7
 by_cases c8 : a0 = 6
 rotate_left
 ·rw [if_neg c8] at H
  have c8b0 : (a0 == 6) = false := beq_eq_false_iff_ne.mpr c8
  have c8b1 : (a0 != 6) = true := bne_iff_ne.mpr c8
  obtain rfl := Option.some.inj H
  go_enter Tryd.func52, Tryd.ntmps52
  go_wp2
  go_ret
  exact ⟨by first | rfl | (simp; done) | (simp [*]; done), by repeat (first | exact Drawn0.refl _ | apply Drawn0.step)⟩
 rw [if_pos c8] at H
 have c8b0 : (a0 == 6) = true := beq_iff_eq.mpr c8
 have c8b1 : (a0 != 6) = false := bne_eq_false_iff_eq.mpr c8
 clear c8
 obtain rfl := Option.some.inj H
 go_enter Tryd.func52, Tryd.ntmps52
 go_wp2
 go_ret
 exact ⟨by first | rfl | (simp; done) | (simp [*]; done), by repeat (first | exact Drawn0.refl _ | apply Drawn0.step)⟩
def computusref26_anchor.f (k : Nat) (a0_0 : Int) (a0_1 : Int) (a0_2 : Int) (a0_3 : Int) (a0_4 : Int) (a0_5 : Int) : Option (ByteArray) := if a0_0 = 1 then ((computusref26_Num.f k a0_1).bind fun t383 => (if 6 + t383.size ≤ 9223372036854775807 then (if ((⟨#[102, 105, 120, 101, 100, 32]⟩ : ByteArray) ++ t383).size + 1 ≤ 9223372036854775807 then ((computusref26_Num.f k a0_2).bind fun t384 => (if (((⟨#[102, 105, 120, 101, 100, 32]⟩ : ByteArray) ++ t383) ++ (⟨#[32]⟩ : ByteArray)).size + t384.size ≤ 9223372036854775807 then (some ((((⟨#[102, 105, 120, 101, 100, 32]⟩ : ByteArray) ++ t383) ++ (⟨#[32]⟩ : ByteArray)) ++ t384)) else (none))) else (none)) else (none))) else (if a0_0 = 2 then ((computusref26_Num.f k a0_3).bind fun t385 => (if 7 + t385.size ≤ 9223372036854775807 then (some ((⟨#[101, 97, 115, 116, 101, 114, 32]⟩ : ByteArray) ++ t385)) else (none))) else ((computusref04_Name.f a0_4).bind fun t386 => (if 4 + t386.size ≤ 9223372036854775807 then (if ((⟨#[110, 116, 104, 32]⟩ : ByteArray) ++ t386).size + 1 ≤ 9223372036854775807 then ((computusref26_Num.f k a0_5).bind fun t387 => (if (((⟨#[110, 116, 104, 32]⟩ : ByteArray) ++ t386) ++ (⟨#[32]⟩ : ByteArray)).size + t387.size ≤ 9223372036854775807 then (if ((((⟨#[110, 116, 104, 32]⟩ : ByteArray) ++ t386) ++ (⟨#[32]⟩ : ByteArray)) ++ t387).size + 1 ≤ 9223372036854775807 then ((computusref26_Num.f k a0_1).bind fun t388 => (if (((((⟨#[110, 116, 104, 32]⟩ : ByteArray) ++ t386) ++ (⟨#[32]⟩ : ByteArray)) ++ t387) ++ (⟨#[32]⟩ : ByteArray)).size + t388.size ≤ 9223372036854775807 then (if ((((((⟨#[110, 116, 104, 32]⟩ : ByteArray) ++ t386) ++ (⟨#[32]⟩ : ByteArray)) ++ t387) ++ (⟨#[32]⟩ : ByteArray)) ++ t388).size + 1 ≤ 9223372036854775807 then ((computusref26_Num.f k a0_2).bind fun t389 => (if (((((((⟨#[110, 116, 104, 32]⟩ : ByteArray) ++ t386) ++ (⟨#[32]⟩ : ByteArray)) ++ t387) ++ (⟨#[32]⟩ : ByteArray)) ++ t388) ++ (⟨#[32]⟩ : ByteArray)).size + t389.size ≤ 9223372036854775807 then (some ((((((((⟨#[110, 116, 104, 32]⟩ : ByteArray) ++ t386) ++ (⟨#[32]⟩ : ByteArray)) ++ t387) ++ (⟨#[32]⟩ : ByteArray)) ++ t388) ++ (⟨#[32]⟩ : ByteArray)) ++ t389)) else (none))) else (none)) else (none))) else (none)) else (none))) else (none)) else (none))))
theorem computusref26_anchor.calls (k : Nat) (a0_0 : Int) (a0_1 : Int) (a0_2 : Int) (a0_3 : Int) (a0_4 : Int) (a0_5 : Int) (r : ByteArray) (w : World) (h : computusref26_anchor.f k a0_0 a0_1 a0_2 a0_3 a0_4 a0_5 = some r) :
  Calls Tryd.prog 34 #[.agg #[.int .i64 a0_0, .int .i64 a0_1, .int .i64 a0_2, .int .i64 a0_3, .int .i64 a0_4, .int .i64 a0_5]] w fun e w' => e = .returned (.string r) ∧ Below w.heap.size w w' := by
 have hu39 := Tryd.underlying39
 have HB := Aside0.mk (Below.refl w.heap.size w)
 have H : (if a0_0 = 1 then ((computusref26_Num.f k a0_1).bind fun t383 => (if 6 + t383.size ≤ 9223372036854775807 then (if ((⟨#[102, 105, 120, 101, 100, 32]⟩ : ByteArray) ++ t383).size + 1 ≤ 9223372036854775807 then ((computusref26_Num.f k a0_2).bind fun t384 => (if (((⟨#[102, 105, 120, 101, 100, 32]⟩ : ByteArray) ++ t383) ++ (⟨#[32]⟩ : ByteArray)).size + t384.size ≤ 9223372036854775807 then (some ((((⟨#[102, 105, 120, 101, 100, 32]⟩ : ByteArray) ++ t383) ++ (⟨#[32]⟩ : ByteArray)) ++ t384)) else (none))) else (none)) else (none))) else (if a0_0 = 2 then ((computusref26_Num.f k a0_3).bind fun t385 => (if 7 + t385.size ≤ 9223372036854775807 then (some ((⟨#[101, 97, 115, 116, 101, 114, 32]⟩ : ByteArray) ++ t385)) else (none))) else ((computusref04_Name.f a0_4).bind fun t386 => (if 4 + t386.size ≤ 9223372036854775807 then (if ((⟨#[110, 116, 104, 32]⟩ : ByteArray) ++ t386).size + 1 ≤ 9223372036854775807 then ((computusref26_Num.f k a0_5).bind fun t387 => (if (((⟨#[110, 116, 104, 32]⟩ : ByteArray) ++ t386) ++ (⟨#[32]⟩ : ByteArray)).size + t387.size ≤ 9223372036854775807 then (if ((((⟨#[110, 116, 104, 32]⟩ : ByteArray) ++ t386) ++ (⟨#[32]⟩ : ByteArray)) ++ t387).size + 1 ≤ 9223372036854775807 then ((computusref26_Num.f k a0_1).bind fun t388 => (if (((((⟨#[110, 116, 104, 32]⟩ : ByteArray) ++ t386) ++ (⟨#[32]⟩ : ByteArray)) ++ t387) ++ (⟨#[32]⟩ : ByteArray)).size + t388.size ≤ 9223372036854775807 then (if ((((((⟨#[110, 116, 104, 32]⟩ : ByteArray) ++ t386) ++ (⟨#[32]⟩ : ByteArray)) ++ t387) ++ (⟨#[32]⟩ : ByteArray)) ++ t388).size + 1 ≤ 9223372036854775807 then ((computusref26_Num.f k a0_2).bind fun t389 => (if (((((((⟨#[110, 116, 104, 32]⟩ : ByteArray) ++ t386) ++ (⟨#[32]⟩ : ByteArray)) ++ t387) ++ (⟨#[32]⟩ : ByteArray)) ++ t388) ++ (⟨#[32]⟩ : ByteArray)).size + t389.size ≤ 9223372036854775807 then (some ((((((((⟨#[110, 116, 104, 32]⟩ : ByteArray) ++ t386) ++ (⟨#[32]⟩ : ByteArray)) ++ t387) ++ (⟨#[32]⟩ : ByteArray)) ++ t388) ++ (⟨#[32]⟩ : ByteArray)) ++ t389)) else (none))) else (none)) else (none))) else (none)) else (none))) else (none)) else (none))))) = some r := h
 clear h
 by_cases c2 : a0_0 = 1
 ·rw [if_pos c2] at H
  have c2b0 : (a0_0 == 1) = true := beq_iff_eq.mpr c2
  have c2b1 : (a0_0 != 1) = false := bne_eq_false_iff_eq.mpr c2
  clear c2
  replace H := Option.bind_eq_some_iff.mp H
  obtain ⟨t383, A30, H⟩ := H
  replace H : (if 6 + t383.size ≤ 9223372036854775807 then (if ((⟨#[102, 105, 120, 101, 100, 32]⟩ : ByteArray) ++ t383).size + 1 ≤ 9223372036854775807 then ((computusref26_Num.f k a0_2).bind fun t384 => (if (((⟨#[102, 105, 120, 101, 100, 32]⟩ : ByteArray) ++ t383) ++ (⟨#[32]⟩ : ByteArray)).size + t384.size ≤ 9223372036854775807 then (some ((((⟨#[102, 105, 120, 101, 100, 32]⟩ : ByteArray) ++ t383) ++ (⟨#[32]⟩ : ByteArray)) ++ t384)) else (none))) else (none)) else (none)) = some r := H
  have A3 := Aside0.mk A30
  clear A30
  by_cases c4 : 6 + t383.size ≤ 9223372036854775807
  ·rw [if_pos c4] at H
   have c4b0 := eq_true c4
   have c4b1 : decide (6 + t383.size ≤ 9223372036854775807) = true := decide_eq_true c4
   try have c4b2 : (9223372036854775807 < 6 + t383.size) = False := eq_false (Nat.not_lt.2 c4)
   by_cases c5 : ((⟨#[102, 105, 120, 101, 100, 32]⟩ : ByteArray) ++ t383).size + 1 ≤ 9223372036854775807
   ·rw [if_pos c5] at H
    have c5b0 := eq_true c5
    have c5b1 : decide (((⟨#[102, 105, 120, 101, 100, 32]⟩ : ByteArray) ++ t383).size + 1 ≤ 9223372036854775807) = true := decide_eq_true c5
    have c5e : 6 + t383.size + 1 ≤ 9223372036854775807 := by have h_ := c5; simp only [ByteArray.size_append] at h_; exact h_
    have c5e0 := eq_true c5e
    have c5e1 : decide (6 + t383.size + 1 ≤ 9223372036854775807) = true := decide_eq_true c5e
    have c5e2 : (9223372036854775807 < 6 + t383.size + 1) = False := eq_false (Nat.not_lt.2 c5e)
    try have c5b2 : (9223372036854775807 < ((⟨#[102, 105, 120, 101, 100, 32]⟩ : ByteArray) ++ t383).size + 1) = False := eq_false (Nat.not_lt.2 c5)
    replace H := Option.bind_eq_some_iff.mp H
    obtain ⟨t384, A60, H⟩ := H
    replace H : (if (((⟨#[102, 105, 120, 101, 100, 32]⟩ : ByteArray) ++ t383) ++ (⟨#[32]⟩ : ByteArray)).size + t384.size ≤ 9223372036854775807 then (some ((((⟨#[102, 105, 120, 101, 100, 32]⟩ : ByteArray) ++ t383) ++ (⟨#[32]⟩ : ByteArray)) ++ t384)) else (none)) = some r := H
    have A6 := Aside0.mk A60
    clear A60
    by_cases c7 : (((⟨#[102, 105, 120, 101, 100, 32]⟩ : ByteArray) ++ t383) ++ (⟨#[32]⟩ : ByteArray)).size + t384.size ≤ 9223372036854775807
    ·rw [if_pos c7] at H
     have c7b0 := eq_true c7
     have c7b1 : decide ((((⟨#[102, 105, 120, 101, 100, 32]⟩ : ByteArray) ++ t383) ++ (⟨#[32]⟩ : ByteArray)).size + t384.size ≤ 9223372036854775807) = true := decide_eq_true c7
     have c7e : 6 + t383.size + 1 + t384.size ≤ 9223372036854775807 := by have h_ := c7; simp only [ByteArray.size_append] at h_; exact h_
     have c7e0 := eq_true c7e
     have c7e1 : decide (6 + t383.size + 1 + t384.size ≤ 9223372036854775807) = true := decide_eq_true c7e
     have c7e2 : (9223372036854775807 < 6 + t383.size + 1 + t384.size) = False := eq_false (Nat.not_lt.2 c7e)
     try have c7b2 : (9223372036854775807 < (((⟨#[102, 105, 120, 101, 100, 32]⟩ : ByteArray) ++ t383) ++ (⟨#[32]⟩ : ByteArray)).size + t384.size) = False := eq_false (Nat.not_lt.2 c7)
     obtain rfl := Option.some.inj H
     go_enter Tryd.func34, Tryd.ntmps34
     go_wp2_with (first | ((with_reducible refine gate_dst (N := 1) rfl ?_); refine box_event ?hg (N := 1) ?hd (cs := #[.int .i64 a0_0, .int .i64 a0_1, .int .i64 a0_2, .int .i64 a0_3, .int .i64 a0_4, .int .i64 a0_5]) (t := 39) ?hr ?_; (case hd => rfl); (case hg => rfl); (case hr => first | (go_simp; done) | (go_simp; rfl)); intro gb382 hg w8 hbox hb; have n0_ := Aside0.mk (below_step (by repeat (first | (with_reducible first | exact HB.out | apply below_alloc | apply pw_below_drewN | apply below_drew1) | exact HB.out)) hb); have n1_ := Aside0.mk (hbox); have n2_ := Aside0.mk ((by rw [hg]; exact (below_size (by repeat (first | (with_reducible first | exact HB.out | apply below_alloc | apply pw_below_drewN | apply below_drew1) | exact HB.out))) : w.heap.size ≤ gb382)); have n3_ := Aside0.mk ((by rw [hg]; exact (below_size (by repeat (first | (with_reducible first | exact HB.out | apply below_alloc | apply pw_below_drewN | apply below_drew1) | exact HB.out))) : w.heap.size ≤ gb382)); clear HB; have HB := n0_; have BK382 := n1_; have GW382 := n2_; have GE382 := n3_; clear n0_ n1_ n2_ n3_; clear hb hbox hg; have hcz9_0 : w8.cell? ⟨gb382, 0, none⟩ = some (.int .i64 a0_0) := (blk_cell BK382.out 0).trans rfl; have hcz9_1 : w8.cell? ⟨gb382, 1, none⟩ = some (.int .i64 a0_1) := (blk_cell BK382.out 1).trans rfl; have hcz9_2 : w8.cell? ⟨gb382, 2, none⟩ = some (.int .i64 a0_2) := (blk_cell BK382.out 2).trans rfl; have hcz9_3 : w8.cell? ⟨gb382, 3, none⟩ = some (.int .i64 a0_3) := (blk_cell BK382.out 3).trans rfl; have hcz9_4 : w8.cell? ⟨gb382, 4, none⟩ = some (.int .i64 a0_4) := (blk_cell BK382.out 4).trans rfl; have hcz9_5 : w8.cell? ⟨gb382, 5, none⟩ = some (.int .i64 a0_5) := (blk_cell BK382.out 5).trans rfl; have hfz9_0 := blk_frozen BK382.out 0; have hfz9_1 := blk_frozen BK382.out 1; have hfz9_2 := blk_frozen BK382.out 2; have hfz9_3 := blk_frozen BK382.out 3; have hfz9_4 := blk_frozen BK382.out 4; have hfz9_5 := blk_frozen BK382.out 5) | (go_at_call 33; (with_reducible refine (computusref26_Num.calls k a0_1 t383 _ A3.out).mono ?_); rintro e w' ⟨rfl, ⟨nd, rfl⟩⟩; (try first | exact ⟨rfl, _, World.drewN_drewN _ _ _⟩ | exact ⟨rfl, _, Eq.trans (World.drewN_drewN _ _ _) (congrArg (World.drewN _) (Nat.add_assoc _ _ _))⟩)) | (go_at_call 33; (with_reducible refine (computusref26_Num.calls k a0_2 t384 _ A6.out).mono ?_); rintro e w' ⟨rfl, ⟨nd, rfl⟩⟩; (try first | exact ⟨rfl, _, World.drewN_drewN _ _ _⟩ | exact ⟨rfl, _, Eq.trans (World.drewN_drewN _ _ _) (congrArg (World.drewN _) (Nat.add_assoc _ _ _))⟩)))
     repeat (go_quiet (first | ((with_reducible refine gate_dst (N := 1) rfl ?_); refine box_event ?hg (N := 1) ?hd (cs := #[.int .i64 a0_0, .int .i64 a0_1, .int .i64 a0_2, .int .i64 a0_3, .int .i64 a0_4, .int .i64 a0_5]) (t := 39) ?hr ?_; (case hd => rfl); (case hg => rfl); (case hr => first | (go_simp; done) | (go_simp; rfl)); intro gb382 hg w8 hbox hb; have n0_ := Aside0.mk (below_step (by repeat (first | (with_reducible first | exact HB.out | apply below_alloc | apply pw_below_drewN | apply below_drew1) | exact HB.out)) hb); have n1_ := Aside0.mk (hbox); have n2_ := Aside0.mk ((by rw [hg]; exact (below_size (by repeat (first | (with_reducible first | exact HB.out | apply below_alloc | apply pw_below_drewN | apply below_drew1) | exact HB.out))) : w.heap.size ≤ gb382)); have n3_ := Aside0.mk ((by rw [hg]; exact (below_size (by repeat (first | (with_reducible first | exact HB.out | apply below_alloc | apply pw_below_drewN | apply below_drew1) | exact HB.out))) : w.heap.size ≤ gb382)); clear HB; have HB := n0_; have BK382 := n1_; have GW382 := n2_; have GE382 := n3_; clear n0_ n1_ n2_ n3_; clear hb hbox hg; have hcz9_0 : w8.cell? ⟨gb382, 0, none⟩ = some (.int .i64 a0_0) := (blk_cell BK382.out 0).trans rfl; have hcz9_1 : w8.cell? ⟨gb382, 1, none⟩ = some (.int .i64 a0_1) := (blk_cell BK382.out 1).trans rfl; have hcz9_2 : w8.cell? ⟨gb382, 2, none⟩ = some (.int .i64 a0_2) := (blk_cell BK382.out 2).trans rfl; have hcz9_3 : w8.cell? ⟨gb382, 3, none⟩ = some (.int .i64 a0_3) := (blk_cell BK382.out 3).trans rfl; have hcz9_4 : w8.cell? ⟨gb382, 4, none⟩ = some (.int .i64 a0_4) := (blk_cell BK382.out 4).trans rfl; have hcz9_5 : w8.cell? ⟨gb382, 5, none⟩ = some (.int .i64 a0_5) := (blk_cell BK382.out 5).trans rfl; have hfz9_0 := blk_frozen BK382.out 0; have hfz9_1 := blk_frozen BK382.out 1; have hfz9_2 := blk_frozen BK382.out 2; have hfz9_3 := blk_frozen BK382.out 3; have hfz9_4 := blk_frozen BK382.out 4; have hfz9_5 := blk_frozen BK382.out 5) | (go_at_call 33; (with_reducible refine (computusref26_Num.calls k a0_1 t383 _ A3.out).mono ?_); rintro e w' ⟨rfl, ⟨nd, rfl⟩⟩; (try first | exact ⟨rfl, _, World.drewN_drewN _ _ _⟩ | exact ⟨rfl, _, Eq.trans (World.drewN_drewN _ _ _) (congrArg (World.drewN _) (Nat.add_assoc _ _ _))⟩)) | (go_at_call 33; (with_reducible refine (computusref26_Num.calls k a0_2 t384 _ A6.out).mono ?_); rintro e w' ⟨rfl, ⟨nd, rfl⟩⟩; (try first | exact ⟨rfl, _, World.drewN_drewN _ _ _⟩ | exact ⟨rfl, _, Eq.trans (World.drewN_drewN _ _ _) (congrArg (World.drewN _) (Nat.add_assoc _ _ _))⟩))); try go_wp2_with (first | ((with_reducible refine gate_dst (N := 1) rfl ?_); refine box_event ?hg (N := 1) ?hd (cs := #[.int .i64 a0_0, .int .i64 a0_1, .int .i64 a0_2, .int .i64 a0_3, .int .i64 a0_4, .int .i64 a0_5]) (t := 39) ?hr ?_; (case hd => rfl); (case hg => rfl); (case hr => first | (go_simp; done) | (go_simp; rfl)); intro gb382 hg w8 hbox hb; have n0_ := Aside0.mk (below_step (by repeat (first | (with_reducible first | exact HB.out | apply below_alloc | apply pw_below_drewN | apply below_drew1) | exact HB.out)) hb); have n1_ := Aside0.mk (hbox); have n2_ := Aside0.mk ((by rw [hg]; exact (below_size (by repeat (first | (with_reducible first | exact HB.out | apply below_alloc | apply pw_below_drewN | apply below_drew1) | exact HB.out))) : w.heap.size ≤ gb382)); have n3_ := Aside0.mk ((by rw [hg]; exact (below_size (by repeat (first | (with_reducible first | exact HB.out | apply below_alloc | apply pw_below_drewN | apply below_drew1) | exact HB.out))) : w.heap.size ≤ gb382)); clear HB; have HB := n0_; have BK382 := n1_; have GW382 := n2_; have GE382 := n3_; clear n0_ n1_ n2_ n3_; clear hb hbox hg; have hcz9_0 : w8.cell? ⟨gb382, 0, none⟩ = some (.int .i64 a0_0) := (blk_cell BK382.out 0).trans rfl; have hcz9_1 : w8.cell? ⟨gb382, 1, none⟩ = some (.int .i64 a0_1) := (blk_cell BK382.out 1).trans rfl; have hcz9_2 : w8.cell? ⟨gb382, 2, none⟩ = some (.int .i64 a0_2) := (blk_cell BK382.out 2).trans rfl; have hcz9_3 : w8.cell? ⟨gb382, 3, none⟩ = some (.int .i64 a0_3) := (blk_cell BK382.out 3).trans rfl; have hcz9_4 : w8.cell? ⟨gb382, 4, none⟩ = some (.int .i64 a0_4) := (blk_cell BK382.out 4).trans rfl; have hcz9_5 : w8.cell? ⟨gb382, 5, none⟩ = some (.int .i64 a0_5) := (blk_cell BK382.out 5).trans rfl; have hfz9_0 := blk_frozen BK382.out 0; have hfz9_1 := blk_frozen BK382.out 1; have hfz9_2 := blk_frozen BK382.out 2; have hfz9_3 := blk_frozen BK382.out 3; have hfz9_4 := blk_frozen BK382.out 4; have hfz9_5 := blk_frozen BK382.out 5) | (go_at_call 33; (with_reducible refine (computusref26_Num.calls k a0_1 t383 _ A3.out).mono ?_); rintro e w' ⟨rfl, ⟨nd, rfl⟩⟩; (try first | exact ⟨rfl, _, World.drewN_drewN _ _ _⟩ | exact ⟨rfl, _, Eq.trans (World.drewN_drewN _ _ _) (congrArg (World.drewN _) (Nat.add_assoc _ _ _))⟩)) | (go_at_call 33; (with_reducible refine (computusref26_Num.calls k a0_2 t384 _ A6.out).mono ?_); rintro e w' ⟨rfl, ⟨nd, rfl⟩⟩; (try first | exact ⟨rfl, _, World.drewN_drewN _ _ _⟩ | exact ⟨rfl, _, Eq.trans (World.drewN_drewN _ _ _) (congrArg (World.drewN _) (Nat.add_assoc _ _ _))⟩))))
     go_ret
     exact ⟨by first | rfl | (simp [errW_none, errW_some] <;> rfl) | (simp [*, errW_none, errW_some] <;> rfl), by repeat (first | (with_reducible first | exact HB.out | apply below_alloc | apply pw_below_drewN | apply below_drew1 | refine below_set ?_ GE382.out) | exact HB.out)⟩
    ·rw [if_neg c7] at H
     exact absurd H (by simp)
   ·rw [if_neg c5] at H
    exact absurd H (by simp)
  ·rw [if_neg c4] at H
   exact absurd H (by simp)
 ·rw [if_neg c2] at H
  have c2b0 : (a0_0 == 1) = false := beq_eq_false_iff_ne.mpr c2
  have c2b1 : (a0_0 != 1) = true := bne_iff_ne.mpr c2
  by_cases c10 : a0_0 = 2
  ·rw [if_pos c10] at H
   have c10b0 : (a0_0 == 2) = true := beq_iff_eq.mpr c10
   have c10b1 : (a0_0 != 2) = false := bne_eq_false_iff_eq.mpr c10
   clear c10
   replace H := Option.bind_eq_some_iff.mp H
   obtain ⟨t385, A110, H⟩ := H
   replace H : (if 7 + t385.size ≤ 9223372036854775807 then (some ((⟨#[101, 97, 115, 116, 101, 114, 32]⟩ : ByteArray) ++ t385)) else (none)) = some r := H
   have A11 := Aside0.mk A110
   clear A110
   by_cases c12 : 7 + t385.size ≤ 9223372036854775807
   ·rw [if_pos c12] at H
    have c12b0 := eq_true c12
    have c12b1 : decide (7 + t385.size ≤ 9223372036854775807) = true := decide_eq_true c12
    try have c12b2 : (9223372036854775807 < 7 + t385.size) = False := eq_false (Nat.not_lt.2 c12)
    obtain rfl := Option.some.inj H
    go_enter Tryd.func34, Tryd.ntmps34
    go_wp2_with (first | ((with_reducible refine gate_dst (N := 1) rfl ?_); refine box_event ?hg (N := 1) ?hd (cs := #[.int .i64 a0_0, .int .i64 a0_1, .int .i64 a0_2, .int .i64 a0_3, .int .i64 a0_4, .int .i64 a0_5]) (t := 39) ?hr ?_; (case hd => rfl); (case hg => rfl); (case hr => first | (go_simp; done) | (go_simp; rfl)); intro gb382 hg w13 hbox hb; have n0_ := Aside0.mk (below_step (by repeat (first | (with_reducible first | exact HB.out | apply below_alloc | apply pw_below_drewN | apply below_drew1) | exact HB.out)) hb); have n1_ := Aside0.mk (hbox); have n2_ := Aside0.mk ((by rw [hg]; exact (below_size (by repeat (first | (with_reducible first | exact HB.out | apply below_alloc | apply pw_below_drewN | apply below_drew1) | exact HB.out))) : w.heap.size ≤ gb382)); have n3_ := Aside0.mk ((by rw [hg]; exact (below_size (by repeat (first | (with_reducible first | exact HB.out | apply below_alloc | apply pw_below_drewN | apply below_drew1) | exact HB.out))) : w.heap.size ≤ gb382)); clear HB; have HB := n0_; have BK382 := n1_; have GW382 := n2_; have GE382 := n3_; clear n0_ n1_ n2_ n3_; clear hb hbox hg; have hcz14_0 : w13.cell? ⟨gb382, 0, none⟩ = some (.int .i64 a0_0) := (blk_cell BK382.out 0).trans rfl; have hcz14_1 : w13.cell? ⟨gb382, 1, none⟩ = some (.int .i64 a0_1) := (blk_cell BK382.out 1).trans rfl; have hcz14_2 : w13.cell? ⟨gb382, 2, none⟩ = some (.int .i64 a0_2) := (blk_cell BK382.out 2).trans rfl; have hcz14_3 : w13.cell? ⟨gb382, 3, none⟩ = some (.int .i64 a0_3) := (blk_cell BK382.out 3).trans rfl; have hcz14_4 : w13.cell? ⟨gb382, 4, none⟩ = some (.int .i64 a0_4) := (blk_cell BK382.out 4).trans rfl; have hcz14_5 : w13.cell? ⟨gb382, 5, none⟩ = some (.int .i64 a0_5) := (blk_cell BK382.out 5).trans rfl; have hfz14_0 := blk_frozen BK382.out 0; have hfz14_1 := blk_frozen BK382.out 1; have hfz14_2 := blk_frozen BK382.out 2; have hfz14_3 := blk_frozen BK382.out 3; have hfz14_4 := blk_frozen BK382.out 4; have hfz14_5 := blk_frozen BK382.out 5) | (go_at_call 33; (with_reducible refine (computusref26_Num.calls k a0_3 t385 _ A11.out).mono ?_); rintro e w' ⟨rfl, ⟨nd, rfl⟩⟩; (try first | exact ⟨rfl, _, World.drewN_drewN _ _ _⟩ | exact ⟨rfl, _, Eq.trans (World.drewN_drewN _ _ _) (congrArg (World.drewN _) (Nat.add_assoc _ _ _))⟩)))
    repeat (go_quiet (first | ((with_reducible refine gate_dst (N := 1) rfl ?_); refine box_event ?hg (N := 1) ?hd (cs := #[.int .i64 a0_0, .int .i64 a0_1, .int .i64 a0_2, .int .i64 a0_3, .int .i64 a0_4, .int .i64 a0_5]) (t := 39) ?hr ?_; (case hd => rfl); (case hg => rfl); (case hr => first | (go_simp; done) | (go_simp; rfl)); intro gb382 hg w13 hbox hb; have n0_ := Aside0.mk (below_step (by repeat (first | (with_reducible first | exact HB.out | apply below_alloc | apply pw_below_drewN | apply below_drew1) | exact HB.out)) hb); have n1_ := Aside0.mk (hbox); have n2_ := Aside0.mk ((by rw [hg]; exact (below_size (by repeat (first | (with_reducible first | exact HB.out | apply below_alloc | apply pw_below_drewN | apply below_drew1) | exact HB.out))) : w.heap.size ≤ gb382)); have n3_ := Aside0.mk ((by rw [hg]; exact (below_size (by repeat (first | (with_reducible first | exact HB.out | apply below_alloc | apply pw_below_drewN | apply below_drew1) | exact HB.out))) : w.heap.size ≤ gb382)); clear HB; have HB := n0_; have BK382 := n1_; have GW382 := n2_; have GE382 := n3_; clear n0_ n1_ n2_ n3_; clear hb hbox hg; have hcz14_0 : w13.cell? ⟨gb382, 0, none⟩ = some (.int .i64 a0_0) := (blk_cell BK382.out 0).trans rfl; have hcz14_1 : w13.cell? ⟨gb382, 1, none⟩ = some (.int .i64 a0_1) := (blk_cell BK382.out 1).trans rfl; have hcz14_2 : w13.cell? ⟨gb382, 2, none⟩ = some (.int .i64 a0_2) := (blk_cell BK382.out 2).trans rfl; have hcz14_3 : w13.cell? ⟨gb382, 3, none⟩ = some (.int .i64 a0_3) := (blk_cell BK382.out 3).trans rfl; have hcz14_4 : w13.cell? ⟨gb382, 4, none⟩ = some (.int .i64 a0_4) := (blk_cell BK382.out 4).trans rfl; have hcz14_5 : w13.cell? ⟨gb382, 5, none⟩ = some (.int .i64 a0_5) := (blk_cell BK382.out 5).trans rfl; have hfz14_0 := blk_frozen BK382.out 0; have hfz14_1 := blk_frozen BK382.out 1; have hfz14_2 := blk_frozen BK382.out 2; have hfz14_3 := blk_frozen BK382.out 3; have hfz14_4 := blk_frozen BK382.out 4; have hfz14_5 := blk_frozen BK382.out 5) | (go_at_call 33; (with_reducible refine (computusref26_Num.calls k a0_3 t385 _ A11.out).mono ?_); rintro e w' ⟨rfl, ⟨nd, rfl⟩⟩; (try first | exact ⟨rfl, _, World.drewN_drewN _ _ _⟩ | exact ⟨rfl, _, Eq.trans (World.drewN_drewN _ _ _) (congrArg (World.drewN _) (Nat.add_assoc _ _ _))⟩))); try go_wp2_with (first | ((with_reducible refine gate_dst (N := 1) rfl ?_); refine box_event ?hg (N := 1) ?hd (cs := #[.int .i64 a0_0, .int .i64 a0_1, .int .i64 a0_2, .int .i64 a0_3, .int .i64 a0_4, .int .i64 a0_5]) (t := 39) ?hr ?_; (case hd => rfl); (case hg => rfl); (case hr => first | (go_simp; done) | (go_simp; rfl)); intro gb382 hg w13 hbox hb; have n0_ := Aside0.mk (below_step (by repeat (first | (with_reducible first | exact HB.out | apply below_alloc | apply pw_below_drewN | apply below_drew1) | exact HB.out)) hb); have n1_ := Aside0.mk (hbox); have n2_ := Aside0.mk ((by rw [hg]; exact (below_size (by repeat (first | (with_reducible first | exact HB.out | apply below_alloc | apply pw_below_drewN | apply below_drew1) | exact HB.out))) : w.heap.size ≤ gb382)); have n3_ := Aside0.mk ((by rw [hg]; exact (below_size (by repeat (first | (with_reducible first | exact HB.out | apply below_alloc | apply pw_below_drewN | apply below_drew1) | exact HB.out))) : w.heap.size ≤ gb382)); clear HB; have HB := n0_; have BK382 := n1_; have GW382 := n2_; have GE382 := n3_; clear n0_ n1_ n2_ n3_; clear hb hbox hg; have hcz14_0 : w13.cell? ⟨gb382, 0, none⟩ = some (.int .i64 a0_0) := (blk_cell BK382.out 0).trans rfl; have hcz14_1 : w13.cell? ⟨gb382, 1, none⟩ = some (.int .i64 a0_1) := (blk_cell BK382.out 1).trans rfl; have hcz14_2 : w13.cell? ⟨gb382, 2, none⟩ = some (.int .i64 a0_2) := (blk_cell BK382.out 2).trans rfl; have hcz14_3 : w13.cell? ⟨gb382, 3, none⟩ = some (.int .i64 a0_3) := (blk_cell BK382.out 3).trans rfl; have hcz14_4 : w13.cell? ⟨gb382, 4, none⟩ = some (.int .i64 a0_4) := (blk_cell BK382.out 4).trans rfl; have hcz14_5 : w13.cell? ⟨gb382, 5, none⟩ = some (.int .i64 a0_5) := (blk_cell BK382.out 5).trans rfl; have hfz14_0 := blk_frozen BK382.out 0; have hfz14_1 := blk_frozen BK382.out 1; have hfz14_2 := blk_frozen BK382.out 2; have hfz14_3 := blk_frozen BK382.out 3; have hfz14_4 := blk_frozen BK382.out 4; have hfz14_5 := blk_frozen BK382.out 5) | (go_at_call 33; (with_reducible refine (computusref26_Num.calls k a0_3 t385 _ A11.out).mono ?_); rintro e w' ⟨rfl, ⟨nd, rfl⟩⟩; (try first | exact ⟨rfl, _, World.drewN_drewN _ _ _⟩ | exact ⟨rfl, _, Eq.trans (World.drewN_drewN _ _ _) (congrArg (World.drewN _) (Nat.add_assoc _ _ _))⟩))))
    go_ret
    exact ⟨by first | rfl | (simp [errW_none, errW_some] <;> rfl) | (simp [*, errW_none, errW_some] <;> rfl), by repeat (first | (with_reducible first | exact HB.out | apply below_alloc | apply pw_below_drewN | apply below_drew1 | refine below_set ?_ GE382.out) | exact HB.out)⟩
   ·rw [if_neg c12] at H
    exact absurd H (by simp)
  ·rw [if_neg c10] at H
   have c10b0 : (a0_0 == 2) = false := beq_eq_false_iff_ne.mpr c10
   have c10b1 : (a0_0 != 2) = true := bne_iff_ne.mpr c10
   replace H := Option.bind_eq_some_iff.mp H
   obtain ⟨t386, A150, H⟩ := H
   replace H : (if 4 + t386.size ≤ 9223372036854775807 then (if ((⟨#[110, 116, 104, 32]⟩ : ByteArray) ++ t386).size + 1 ≤ 9223372036854775807 then ((computusref26_Num.f k a0_5).bind fun t387 => (if (((⟨#[110, 116, 104, 32]⟩ : ByteArray) ++ t386) ++ (⟨#[32]⟩ : ByteArray)).size + t387.size ≤ 9223372036854775807 then (if ((((⟨#[110, 116, 104, 32]⟩ : ByteArray) ++ t386) ++ (⟨#[32]⟩ : ByteArray)) ++ t387).size + 1 ≤ 9223372036854775807 then ((computusref26_Num.f k a0_1).bind fun t388 => (if (((((⟨#[110, 116, 104, 32]⟩ : ByteArray) ++ t386) ++ (⟨#[32]⟩ : ByteArray)) ++ t387) ++ (⟨#[32]⟩ : ByteArray)).size + t388.size ≤ 9223372036854775807 then (if ((((((⟨#[110, 116, 104, 32]⟩ : ByteArray) ++ t386) ++ (⟨#[32]⟩ : ByteArray)) ++ t387) ++ (⟨#[32]⟩ : ByteArray)) ++ t388).size + 1 ≤ 9223372036854775807 then ((computusref26_Num.f k a0_2).bind fun t389 => (if (((((((⟨#[110, 116, 104, 32]⟩ : ByteArray) ++ t386) ++ (⟨#[32]⟩ : ByteArray)) ++ t387) ++ (⟨#[32]⟩ : ByteArray)) ++ t388) ++ (⟨#[32]⟩ : ByteArray)).size + t389.size ≤ 9223372036854775807 then (some ((((((((⟨#[110, 116, 104, 32]⟩ : ByteArray) ++ t386) ++ (⟨#[32]⟩ : ByteArray)) ++ t387) ++ (⟨#[32]⟩ : ByteArray)) ++ t388) ++ (⟨#[32]⟩ : ByteArray)) ++ t389)) else (none))) else (none)) else (none))) else (none)) else (none))) else (none)) else (none)) = some r := H
   have A15 := Aside0.mk A150
   clear A150
   by_cases c16 : 4 + t386.size ≤ 9223372036854775807
   ·rw [if_pos c16] at H
    have c16b0 := eq_true c16
    have c16b1 : decide (4 + t386.size ≤ 9223372036854775807) = true := decide_eq_true c16
    try have c16b2 : (9223372036854775807 < 4 + t386.size) = False := eq_false (Nat.not_lt.2 c16)
    by_cases c17 : ((⟨#[110, 116, 104, 32]⟩ : ByteArray) ++ t386).size + 1 ≤ 9223372036854775807
    ·rw [if_pos c17] at H
     have c17b0 := eq_true c17
     have c17b1 : decide (((⟨#[110, 116, 104, 32]⟩ : ByteArray) ++ t386).size + 1 ≤ 9223372036854775807) = true := decide_eq_true c17
     have c17e : 4 + t386.size + 1 ≤ 9223372036854775807 := by have h_ := c17; simp only [ByteArray.size_append] at h_; exact h_
     have c17e0 := eq_true c17e
     have c17e1 : decide (4 + t386.size + 1 ≤ 9223372036854775807) = true := decide_eq_true c17e
     have c17e2 : (9223372036854775807 < 4 + t386.size + 1) = False := eq_false (Nat.not_lt.2 c17e)
     try have c17b2 : (9223372036854775807 < ((⟨#[110, 116, 104, 32]⟩ : ByteArray) ++ t386).size + 1) = False := eq_false (Nat.not_lt.2 c17)
     replace H := Option.bind_eq_some_iff.mp H
     obtain ⟨t387, A180, H⟩ := H
     replace H : (if (((⟨#[110, 116, 104, 32]⟩ : ByteArray) ++ t386) ++ (⟨#[32]⟩ : ByteArray)).size + t387.size ≤ 9223372036854775807 then (if ((((⟨#[110, 116, 104, 32]⟩ : ByteArray) ++ t386) ++ (⟨#[32]⟩ : ByteArray)) ++ t387).size + 1 ≤ 9223372036854775807 then ((computusref26_Num.f k a0_1).bind fun t388 => (if (((((⟨#[110, 116, 104, 32]⟩ : ByteArray) ++ t386) ++ (⟨#[32]⟩ : ByteArray)) ++ t387) ++ (⟨#[32]⟩ : ByteArray)).size + t388.size ≤ 9223372036854775807 then (if ((((((⟨#[110, 116, 104, 32]⟩ : ByteArray) ++ t386) ++ (⟨#[32]⟩ : ByteArray)) ++ t387) ++ (⟨#[32]⟩ : ByteArray)) ++ t388).size + 1 ≤ 9223372036854775807 then ((computusref26_Num.f k a0_2).bind fun t389 => (if (((((((⟨#[110, 116, 104, 32]⟩ : ByteArray) ++ t386) ++ (⟨#[32]⟩ : ByteArray)) ++ t387) ++ (⟨#[32]⟩ : ByteArray)) ++ t388) ++ (⟨#[32]⟩ : ByteArray)).size + t389.size ≤ 9223372036854775807 then (some ((((((((⟨#[110, 116, 104, 32]⟩ : ByteArray) ++ t386) ++ (⟨#[32]⟩ : ByteArray)) ++ t387) ++ (⟨#[32]⟩ : ByteArray)) ++ t388) ++ (⟨#[32]⟩ : ByteArray)) ++ t389)) else (none))) else (none)) else (none))) else (none)) else (none)) = some r := H
     have A18 := Aside0.mk A180
     clear A180
     by_cases c19 : (((⟨#[110, 116, 104, 32]⟩ : ByteArray) ++ t386) ++ (⟨#[32]⟩ : ByteArray)).size + t387.size ≤ 9223372036854775807
     ·rw [if_pos c19] at H
      have c19b0 := eq_true c19
      have c19b1 : decide ((((⟨#[110, 116, 104, 32]⟩ : ByteArray) ++ t386) ++ (⟨#[32]⟩ : ByteArray)).size + t387.size ≤ 9223372036854775807) = true := decide_eq_true c19
      have c19e : 4 + t386.size + 1 + t387.size ≤ 9223372036854775807 := by have h_ := c19; simp only [ByteArray.size_append] at h_; exact h_
      have c19e0 := eq_true c19e
      have c19e1 : decide (4 + t386.size + 1 + t387.size ≤ 9223372036854775807) = true := decide_eq_true c19e
      have c19e2 : (9223372036854775807 < 4 + t386.size + 1 + t387.size) = False := eq_false (Nat.not_lt.2 c19e)
      try have c19b2 : (9223372036854775807 < (((⟨#[110, 116, 104, 32]⟩ : ByteArray) ++ t386) ++ (⟨#[32]⟩ : ByteArray)).size + t387.size) = False := eq_false (Nat.not_lt.2 c19)
      by_cases c20 : ((((⟨#[110, 116, 104, 32]⟩ : ByteArray) ++ t386) ++ (⟨#[32]⟩ : ByteArray)) ++ t387).size + 1 ≤ 9223372036854775807
      ·rw [if_pos c20] at H
       have c20b0 := eq_true c20
       have c20b1 : decide (((((⟨#[110, 116, 104, 32]⟩ : ByteArray) ++ t386) ++ (⟨#[32]⟩ : ByteArray)) ++ t387).size + 1 ≤ 9223372036854775807) = true := decide_eq_true c20
       have c20e : 4 + t386.size + 1 + t387.size + 1 ≤ 9223372036854775807 := by have h_ := c20; simp only [ByteArray.size_append] at h_; exact h_
       have c20e0 := eq_true c20e
       have c20e1 : decide (4 + t386.size + 1 + t387.size + 1 ≤ 9223372036854775807) = true := decide_eq_true c20e
       have c20e2 : (9223372036854775807 < 4 + t386.size + 1 + t387.size + 1) = False := eq_false (Nat.not_lt.2 c20e)
       try have c20b2 : (9223372036854775807 < ((((⟨#[110, 116, 104, 32]⟩ : ByteArray) ++ t386) ++ (⟨#[32]⟩ : ByteArray)) ++ t387).size + 1) = False := eq_false (Nat.not_lt.2 c20)
       replace H := Option.bind_eq_some_iff.mp H
       obtain ⟨t388, A210, H⟩ := H
       replace H : (if (((((⟨#[110, 116, 104, 32]⟩ : ByteArray) ++ t386) ++ (⟨#[32]⟩ : ByteArray)) ++ t387) ++ (⟨#[32]⟩ : ByteArray)).size + t388.size ≤ 9223372036854775807 then (if ((((((⟨#[110, 116, 104, 32]⟩ : ByteArray) ++ t386) ++ (⟨#[32]⟩ : ByteArray)) ++ t387) ++ (⟨#[32]⟩ : ByteArray)) ++ t388).size + 1 ≤ 9223372036854775807 then ((computusref26_Num.f k a0_2).bind fun t389 => (if (((((((⟨#[110, 116, 104, 32]⟩ : ByteArray) ++ t386) ++ (⟨#[32]⟩ : ByteArray)) ++ t387) ++ (⟨#[32]⟩ : ByteArray)) ++ t388) ++ (⟨#[32]⟩ : ByteArray)).size + t389.size ≤ 9223372036854775807 then (some ((((((((⟨#[110, 116, 104, 32]⟩ : ByteArray) ++ t386) ++ (⟨#[32]⟩ : ByteArray)) ++ t387) ++ (⟨#[32]⟩ : ByteArray)) ++ t388) ++ (⟨#[32]⟩ : ByteArray)) ++ t389)) else (none))) else (none)) else (none)) = some r := H
       have A21 := Aside0.mk A210
       clear A210
       by_cases c22 : (((((⟨#[110, 116, 104, 32]⟩ : ByteArray) ++ t386) ++ (⟨#[32]⟩ : ByteArray)) ++ t387) ++ (⟨#[32]⟩ : ByteArray)).size + t388.size ≤ 9223372036854775807
       ·rw [if_pos c22] at H
        have c22b0 := eq_true c22
        have c22b1 : decide ((((((⟨#[110, 116, 104, 32]⟩ : ByteArray) ++ t386) ++ (⟨#[32]⟩ : ByteArray)) ++ t387) ++ (⟨#[32]⟩ : ByteArray)).size + t388.size ≤ 9223372036854775807) = true := decide_eq_true c22
        have c22e : 4 + t386.size + 1 + t387.size + 1 + t388.size ≤ 9223372036854775807 := by have h_ := c22; simp only [ByteArray.size_append] at h_; exact h_
        have c22e0 := eq_true c22e
        have c22e1 : decide (4 + t386.size + 1 + t387.size + 1 + t388.size ≤ 9223372036854775807) = true := decide_eq_true c22e
        have c22e2 : (9223372036854775807 < 4 + t386.size + 1 + t387.size + 1 + t388.size) = False := eq_false (Nat.not_lt.2 c22e)
        try have c22b2 : (9223372036854775807 < (((((⟨#[110, 116, 104, 32]⟩ : ByteArray) ++ t386) ++ (⟨#[32]⟩ : ByteArray)) ++ t387) ++ (⟨#[32]⟩ : ByteArray)).size + t388.size) = False := eq_false (Nat.not_lt.2 c22)
        by_cases c23 : ((((((⟨#[110, 116, 104, 32]⟩ : ByteArray) ++ t386) ++ (⟨#[32]⟩ : ByteArray)) ++ t387) ++ (⟨#[32]⟩ : ByteArray)) ++ t388).size + 1 ≤ 9223372036854775807
        ·rw [if_pos c23] at H
         have c23b0 := eq_true c23
         have c23b1 : decide (((((((⟨#[110, 116, 104, 32]⟩ : ByteArray) ++ t386) ++ (⟨#[32]⟩ : ByteArray)) ++ t387) ++ (⟨#[32]⟩ : ByteArray)) ++ t388).size + 1 ≤ 9223372036854775807) = true := decide_eq_true c23
         have c23e : 4 + t386.size + 1 + t387.size + 1 + t388.size + 1 ≤ 9223372036854775807 := by have h_ := c23; simp only [ByteArray.size_append] at h_; exact h_
         have c23e0 := eq_true c23e
         have c23e1 : decide (4 + t386.size + 1 + t387.size + 1 + t388.size + 1 ≤ 9223372036854775807) = true := decide_eq_true c23e
         have c23e2 : (9223372036854775807 < 4 + t386.size + 1 + t387.size + 1 + t388.size + 1) = False := eq_false (Nat.not_lt.2 c23e)
         try have c23b2 : (9223372036854775807 < ((((((⟨#[110, 116, 104, 32]⟩ : ByteArray) ++ t386) ++ (⟨#[32]⟩ : ByteArray)) ++ t387) ++ (⟨#[32]⟩ : ByteArray)) ++ t388).size + 1) = False := eq_false (Nat.not_lt.2 c23)
         replace H := Option.bind_eq_some_iff.mp H
         obtain ⟨t389, A240, H⟩ := H
         replace H : (if (((((((⟨#[110, 116, 104, 32]⟩ : ByteArray) ++ t386) ++ (⟨#[32]⟩ : ByteArray)) ++ t387) ++ (⟨#[32]⟩ : ByteArray)) ++ t388) ++ (⟨#[32]⟩ : ByteArray)).size + t389.size ≤ 9223372036854775807 then (some ((((((((⟨#[110, 116, 104, 32]⟩ : ByteArray) ++ t386) ++ (⟨#[32]⟩ : ByteArray)) ++ t387) ++ (⟨#[32]⟩ : ByteArray)) ++ t388) ++ (⟨#[32]⟩ : ByteArray)) ++ t389)) else (none)) = some r := H
         have A24 := Aside0.mk A240
         clear A240
         by_cases c25 : (((((((⟨#[110, 116, 104, 32]⟩ : ByteArray) ++ t386) ++ (⟨#[32]⟩ : ByteArray)) ++ t387) ++ (⟨#[32]⟩ : ByteArray)) ++ t388) ++ (⟨#[32]⟩ : ByteArray)).size + t389.size ≤ 9223372036854775807
         ·rw [if_pos c25] at H
          have c25b0 := eq_true c25
          have c25b1 : decide ((((((((⟨#[110, 116, 104, 32]⟩ : ByteArray) ++ t386) ++ (⟨#[32]⟩ : ByteArray)) ++ t387) ++ (⟨#[32]⟩ : ByteArray)) ++ t388) ++ (⟨#[32]⟩ : ByteArray)).size + t389.size ≤ 9223372036854775807) = true := decide_eq_true c25
          have c25e : 4 + t386.size + 1 + t387.size + 1 + t388.size + 1 + t389.size ≤ 9223372036854775807 := by have h_ := c25; simp only [ByteArray.size_append] at h_; exact h_
          have c25e0 := eq_true c25e
          have c25e1 : decide (4 + t386.size + 1 + t387.size + 1 + t388.size + 1 + t389.size ≤ 9223372036854775807) = true := decide_eq_true c25e
          have c25e2 : (9223372036854775807 < 4 + t386.size + 1 + t387.size + 1 + t388.size + 1 + t389.size) = False := eq_false (Nat.not_lt.2 c25e)
          try have c25b2 : (9223372036854775807 < (((((((⟨#[110, 116, 104, 32]⟩ : ByteArray) ++ t386) ++ (⟨#[32]⟩ : ByteArray)) ++ t387) ++ (⟨#[32]⟩ : ByteArray)) ++ t388) ++ (⟨#[32]⟩ : ByteArray)).size + t389.size) = False := eq_false (Nat.not_lt.2 c25)
          obtain rfl := Option.some.inj H
          go_enter Tryd.func34, Tryd.ntmps34
          go_wp2_with (first | ((with_reducible refine gate_dst (N := 1) rfl ?_); refine box_event ?hg (N := 1) ?hd (cs := #[.int .i64 a0_0, .int .i64 a0_1, .int .i64 a0_2, .int .i64 a0_3, .int .i64 a0_4, .int .i64 a0_5]) (t := 39) ?hr ?_; (case hd => rfl); (case hg => rfl); (case hr => first | (go_simp; done) | (go_simp; rfl)); intro gb382 hg w26 hbox hb; have n0_ := Aside0.mk (below_step (by repeat (first | (with_reducible first | exact HB.out | apply below_alloc | apply pw_below_drewN | apply below_drew1) | exact HB.out)) hb); have n1_ := Aside0.mk (hbox); have n2_ := Aside0.mk ((by rw [hg]; exact (below_size (by repeat (first | (with_reducible first | exact HB.out | apply below_alloc | apply pw_below_drewN | apply below_drew1) | exact HB.out))) : w.heap.size ≤ gb382)); have n3_ := Aside0.mk ((by rw [hg]; exact (below_size (by repeat (first | (with_reducible first | exact HB.out | apply below_alloc | apply pw_below_drewN | apply below_drew1) | exact HB.out))) : w.heap.size ≤ gb382)); clear HB; have HB := n0_; have BK382 := n1_; have GW382 := n2_; have GE382 := n3_; clear n0_ n1_ n2_ n3_; clear hb hbox hg; have hcz27_0 : w26.cell? ⟨gb382, 0, none⟩ = some (.int .i64 a0_0) := (blk_cell BK382.out 0).trans rfl; have hcz27_1 : w26.cell? ⟨gb382, 1, none⟩ = some (.int .i64 a0_1) := (blk_cell BK382.out 1).trans rfl; have hcz27_2 : w26.cell? ⟨gb382, 2, none⟩ = some (.int .i64 a0_2) := (blk_cell BK382.out 2).trans rfl; have hcz27_3 : w26.cell? ⟨gb382, 3, none⟩ = some (.int .i64 a0_3) := (blk_cell BK382.out 3).trans rfl; have hcz27_4 : w26.cell? ⟨gb382, 4, none⟩ = some (.int .i64 a0_4) := (blk_cell BK382.out 4).trans rfl; have hcz27_5 : w26.cell? ⟨gb382, 5, none⟩ = some (.int .i64 a0_5) := (blk_cell BK382.out 5).trans rfl; have hfz27_0 := blk_frozen BK382.out 0; have hfz27_1 := blk_frozen BK382.out 1; have hfz27_2 := blk_frozen BK382.out 2; have hfz27_3 := blk_frozen BK382.out 3; have hfz27_4 := blk_frozen BK382.out 4; have hfz27_5 := blk_frozen BK382.out 5) | (go_at_call 52; (with_reducible refine (computusref04_Name.calls a0_4 t386 _ A15.out).mono ?_); rintro e w' ⟨rfl, ⟨nd, rfl⟩⟩; (try first | exact ⟨rfl, _, World.drewN_drewN _ _ _⟩ | exact ⟨rfl, _, Eq.trans (World.drewN_drewN _ _ _) (congrArg (World.drewN _) (Nat.add_assoc _ _ _))⟩)) | (go_at_call 33; (with_reducible refine (computusref26_Num.calls k a0_5 t387 _ A18.out).mono ?_); rintro e w' ⟨rfl, ⟨nd, rfl⟩⟩; (try first | exact ⟨rfl, _, World.drewN_drewN _ _ _⟩ | exact ⟨rfl, _, Eq.trans (World.drewN_drewN _ _ _) (congrArg (World.drewN _) (Nat.add_assoc _ _ _))⟩)) | (go_at_call 33; (with_reducible refine (computusref26_Num.calls k a0_1 t388 _ A21.out).mono ?_); rintro e w' ⟨rfl, ⟨nd, rfl⟩⟩; (try first | exact ⟨rfl, _, World.drewN_drewN _ _ _⟩ | exact ⟨rfl, _, Eq.trans (World.drewN_drewN _ _ _) (congrArg (World.drewN _) (Nat.add_assoc _ _ _))⟩)) | (go_at_call 33; (with_reducible refine (computusref26_Num.calls k a0_2 t389 _ A24.out).mono ?_); rintro e w' ⟨rfl, ⟨nd, rfl⟩⟩; (try first | exact ⟨rfl, _, World.drewN_drewN _ _ _⟩ | exact ⟨rfl, _, Eq.trans (World.drewN_drewN _ _ _) (congrArg (World.drewN _) (Nat.add_assoc _ _ _))⟩)))
          repeat (go_quiet (first | ((with_reducible refine gate_dst (N := 1) rfl ?_); refine box_event ?hg (N := 1) ?hd (cs := #[.int .i64 a0_0, .int .i64 a0_1, .int .i64 a0_2, .int .i64 a0_3, .int .i64 a0_4, .int .i64 a0_5]) (t := 39) ?hr ?_; (case hd => rfl); (case hg => rfl); (case hr => first | (go_simp; done) | (go_simp; rfl)); intro gb382 hg w26 hbox hb; have n0_ := Aside0.mk (below_step (by repeat (first | (with_reducible first | exact HB.out | apply below_alloc | apply pw_below_drewN | apply below_drew1) | exact HB.out)) hb); have n1_ := Aside0.mk (hbox); have n2_ := Aside0.mk ((by rw [hg]; exact (below_size (by repeat (first | (with_reducible first | exact HB.out | apply below_alloc | apply pw_below_drewN | apply below_drew1) | exact HB.out))) : w.heap.size ≤ gb382)); have n3_ := Aside0.mk ((by rw [hg]; exact (below_size (by repeat (first | (with_reducible first | exact HB.out | apply below_alloc | apply pw_below_drewN | apply below_drew1) | exact HB.out))) : w.heap.size ≤ gb382)); clear HB; have HB := n0_; have BK382 := n1_; have GW382 := n2_; have GE382 := n3_; clear n0_ n1_ n2_ n3_; clear hb hbox hg; have hcz27_0 : w26.cell? ⟨gb382, 0, none⟩ = some (.int .i64 a0_0) := (blk_cell BK382.out 0).trans rfl; have hcz27_1 : w26.cell? ⟨gb382, 1, none⟩ = some (.int .i64 a0_1) := (blk_cell BK382.out 1).trans rfl; have hcz27_2 : w26.cell? ⟨gb382, 2, none⟩ = some (.int .i64 a0_2) := (blk_cell BK382.out 2).trans rfl; have hcz27_3 : w26.cell? ⟨gb382, 3, none⟩ = some (.int .i64 a0_3) := (blk_cell BK382.out 3).trans rfl; have hcz27_4 : w26.cell? ⟨gb382, 4, none⟩ = some (.int .i64 a0_4) := (blk_cell BK382.out 4).trans rfl; have hcz27_5 : w26.cell? ⟨gb382, 5, none⟩ = some (.int .i64 a0_5) := (blk_cell BK382.out 5).trans rfl; have hfz27_0 := blk_frozen BK382.out 0; have hfz27_1 := blk_frozen BK382.out 1; have hfz27_2 := blk_frozen BK382.out 2; have hfz27_3 := blk_frozen BK382.out 3; have hfz27_4 := blk_frozen BK382.out 4; have hfz27_5 := blk_frozen BK382.out 5) | (go_at_call 52; (with_reducible refine (computusref04_Name.calls a0_4 t386 _ A15.out).mono ?_); rintro e w' ⟨rfl, ⟨nd, rfl⟩⟩; (try first | exact ⟨rfl, _, World.drewN_drewN _ _ _⟩ | exact ⟨rfl, _, Eq.trans (World.drewN_drewN _ _ _) (congrArg (World.drewN _) (Nat.add_assoc _ _ _))⟩)) | (go_at_call 33; (with_reducible refine (computusref26_Num.calls k a0_5 t387 _ A18.out).mono ?_); rintro e w' ⟨rfl, ⟨nd, rfl⟩⟩; (try first | exact ⟨rfl, _, World.drewN_drewN _ _ _⟩ | exact ⟨rfl, _, Eq.trans (World.drewN_drewN _ _ _) (congrArg (World.drewN _) (Nat.add_assoc _ _ _))⟩)) | (go_at_call 33; (with_reducible refine (computusref26_Num.calls k a0_1 t388 _ A21.out).mono ?_); rintro e w' ⟨rfl, ⟨nd, rfl⟩⟩; (try first | exact ⟨rfl, _, World.drewN_drewN _ _ _⟩ | exact ⟨rfl, _, Eq.trans (World.drewN_drewN _ _ _) (congrArg (World.drewN _) (Nat.add_assoc _ _ _))⟩)) | (go_at_call 33; (with_reducible refine (computusref26_Num.calls k a0_2 t389 _ A24.out).mono ?_); rintro e w' ⟨rfl, ⟨nd, rfl⟩⟩; (try first | exact ⟨rfl, _, World.drewN_drewN _ _ _⟩ | exact ⟨rfl, _, Eq.trans (World.drewN_drewN _ _ _) (congrArg (World.drewN _) (Nat.add_assoc _ _ _))⟩))); try go_wp2_with (first | ((with_reducible refine gate_dst (N := 1) rfl ?_); refine box_event ?hg (N := 1) ?hd (cs := #[.int .i64 a0_0, .int .i64 a0_1, .int .i64 a0_2, .int .i64 a0_3, .int .i64 a0_4, .int .i64 a0_5]) (t := 39) ?hr ?_; (case hd => rfl); (case hg => rfl); (case hr => first | (go_simp; done) | (go_simp; rfl)); intro gb382 hg w26 hbox hb; have n0_ := Aside0.mk (below_step (by repeat (first | (with_reducible first | exact HB.out | apply below_alloc | apply pw_below_drewN | apply below_drew1) | exact HB.out)) hb); have n1_ := Aside0.mk (hbox); have n2_ := Aside0.mk ((by rw [hg]; exact (below_size (by repeat (first | (with_reducible first | exact HB.out | apply below_alloc | apply pw_below_drewN | apply below_drew1) | exact HB.out))) : w.heap.size ≤ gb382)); have n3_ := Aside0.mk ((by rw [hg]; exact (below_size (by repeat (first | (with_reducible first | exact HB.out | apply below_alloc | apply pw_below_drewN | apply below_drew1) | exact HB.out))) : w.heap.size ≤ gb382)); clear HB; have HB := n0_; have BK382 := n1_; have GW382 := n2_; have GE382 := n3_; clear n0_ n1_ n2_ n3_; clear hb hbox hg; have hcz27_0 : w26.cell? ⟨gb382, 0, none⟩ = some (.int .i64 a0_0) := (blk_cell BK382.out 0).trans rfl; have hcz27_1 : w26.cell? ⟨gb382, 1, none⟩ = some (.int .i64 a0_1) := (blk_cell BK382.out 1).trans rfl; have hcz27_2 : w26.cell? ⟨gb382, 2, none⟩ = some (.int .i64 a0_2) := (blk_cell BK382.out 2).trans rfl; have hcz27_3 : w26.cell? ⟨gb382, 3, none⟩ = some (.int .i64 a0_3) := (blk_cell BK382.out 3).trans rfl; have hcz27_4 : w26.cell? ⟨gb382, 4, none⟩ = some (.int .i64 a0_4) := (blk_cell BK382.out 4).trans rfl; have hcz27_5 : w26.cell? ⟨gb382, 5, none⟩ = some (.int .i64 a0_5) := (blk_cell BK382.out 5).trans rfl; have hfz27_0 := blk_frozen BK382.out 0; have hfz27_1 := blk_frozen BK382.out 1; have hfz27_2 := blk_frozen BK382.out 2; have hfz27_3 := blk_frozen BK382.out 3; have hfz27_4 := blk_frozen BK382.out 4; have hfz27_5 := blk_frozen BK382.out 5) | (go_at_call 52; (with_reducible refine (computusref04_Name.calls a0_4 t386 _ A15.out).mono ?_); rintro e w' ⟨rfl, ⟨nd, rfl⟩⟩; (try first | exact ⟨rfl, _, World.drewN_drewN _ _ _⟩ | exact ⟨rfl, _, Eq.trans (World.drewN_drewN _ _ _) (congrArg (World.drewN _) (Nat.add_assoc _ _ _))⟩)) | (go_at_call 33; (with_reducible refine (computusref26_Num.calls k a0_5 t387 _ A18.out).mono ?_); rintro e w' ⟨rfl, ⟨nd, rfl⟩⟩; (try first | exact ⟨rfl, _, World.drewN_drewN _ _ _⟩ | exact ⟨rfl, _, Eq.trans (World.drewN_drewN _ _ _) (congrArg (World.drewN _) (Nat.add_assoc _ _ _))⟩)) | (go_at_call 33; (with_reducible refine (computusref26_Num.calls k a0_1 t388 _ A21.out).mono ?_); rintro e w' ⟨rfl, ⟨nd, rfl⟩⟩; (try first | exact ⟨rfl, _, World.drewN_drewN _ _ _⟩ | exact ⟨rfl, _, Eq.trans (World.drewN_drewN _ _ _) (congrArg (World.drewN _) (Nat.add_assoc _ _ _))⟩)) | (go_at_call 33; (with_reducible refine (computusref26_Num.calls k a0_2 t389 _ A24.out).mono ?_); rintro e w' ⟨rfl, ⟨nd, rfl⟩⟩; (try first | exact ⟨rfl, _, World.drewN_drewN _ _ _⟩ | exact ⟨rfl, _, Eq.trans (World.drewN_drewN _ _ _) (congrArg (World.drewN _) (Nat.add_assoc _ _ _))⟩))))
          go_ret
          exact ⟨by first | rfl | (simp [errW_none, errW_some] <;> rfl) | (simp [*, errW_none, errW_some] <;> rfl), by repeat (first | (with_reducible first | exact HB.out | apply below_alloc | apply pw_below_drewN | apply below_drew1 | refine below_set ?_ GE382.out) | exact HB.out)⟩
         ·rw [if_neg c25] at H
          exact absurd H (by simp)
        ·rw [if_neg c23] at H
         exact absurd H (by simp)
       ·rw [if_neg c22] at H
        exact absurd H (by simp)
      ·rw [if_neg c20] at H
       exact absurd H (by simp)
     ·rw [if_neg c19] at H
      exact absurd H (by simp)
    ·rw [if_neg c17] at H
     exact absurd H (by simp)
   ·rw [if_neg c16] at H
    exact absurd H (by simp)
def computusref26_policy.f (a0 : Int) : Option (ByteArray) := if a0 = 1 then (some (⟨#[116, 114, 97, 110, 115, 102, 101, 114]⟩ : ByteArray)) else (if a0 = 2 then (some (⟨#[99, 111, 109, 109, 101, 109, 111, 114, 97, 116, 101]⟩ : ByteArray)) else (some (⟨#[111, 109, 105, 116]⟩ : ByteArray)))
theorem computusref26_policy.calls (a0 : Int) (r : ByteArray) (w : World) (h : computusref26_policy.f a0 = some r) :
  Calls Tryd.prog 35 #[.int .i64 a0] w fun e w' => e = .returned (.string r) ∧ Drawn0 w w' := by
 have H := h
 clear h
 unfold computusref26_policy.f at H
 by_cases c2 : a0 = 1
 ·rw [if_pos c2] at H
  have c2b0 : (a0 == 1) = true := beq_iff_eq.mpr c2
  have c2b1 : (a0 != 1) = false := bne_eq_false_iff_eq.mpr c2
  clear c2
  obtain rfl := Option.some.inj H
  go_enter Tryd.func35, Tryd.ntmps35
  go_wp2
  go_ret
  exact ⟨by first | rfl | (simp; done) | (simp [*]; done), by repeat (first | exact Drawn0.refl _ | apply Drawn0.step)⟩
 rw [if_neg c2] at H
 have c2b0 : (a0 == 1) = false := beq_eq_false_iff_ne.mpr c2
 have c2b1 : (a0 != 1) = true := bne_iff_ne.mpr c2
 by_cases c3 : a0 = 2
 rotate_left
 ·rw [if_neg c3] at H
  have c3b0 : (a0 == 2) = false := beq_eq_false_iff_ne.mpr c3
  have c3b1 : (a0 != 2) = true := bne_iff_ne.mpr c3
  obtain rfl := Option.some.inj H
  go_enter Tryd.func35, Tryd.ntmps35
  go_wp2
  go_ret
  exact ⟨by first | rfl | (simp; done) | (simp [*]; done), by repeat (first | exact Drawn0.refl _ | apply Drawn0.step)⟩
 rw [if_pos c3] at H
 have c3b0 : (a0 == 2) = true := beq_iff_eq.mpr c3
 have c3b1 : (a0 != 2) = false := bne_eq_false_iff_eq.mpr c3
 clear c3
 obtain rfl := Option.some.inj H
 go_enter Tryd.func35, Tryd.ntmps35
 go_wp2
 go_ret
 exact ⟨by first | rfl | (simp; done) | (simp [*]; done), by repeat (first | exact Drawn0.refl _ | apply Drawn0.step)⟩
end Go.Proofs.YtlfokdbnbmebiaaDoor.Q
end
