/- What is proved: what the statement CattextOffsetsSaid needs, part 9 of 11; the last part proves the statement. No condition. -/
import Derived.Test.YtlfokdbnbmebiaaDoorZCOs7
import Derived.Test.YtlfokdbnbmebiaaDoorRows
import Derived.Lib.Builder
import Derived.Lib.UnsafeStr
import Derived.Shelf.RegionOpenPlain
import Derived.Laws.Externs
import Derived.Lib.AppendIntMem
import Derived.Lib.ItoaLen
set_option maxHeartbeats 8000000
set_option maxRecDepth 100000
set_option linter.unusedVariables false
set_option linter.unusedSimpArgs false
section
namespace Go.Proofs.YtlfokdbnbmebiaaDoor.Q
open Go.RowKit
set_option maxRecDepth 100000
theorem tabs_row {W : World} (h : laidMetH Tryd.prog [("math/bits.deBruijn32tab", Rows.laid_math_bits_deBruijn32tab), ("math/bits.deBruijn64tab", Rows.laid_math_bits_deBruijn64tab), ("internal/strconv.uint64pow10", Rows.laid_internal_strconv_uint64pow10), ("computus/weekday.names", Rows.laid_computus_weekday_names), ("computus/cattext.policies", Rows.laid_computus_cattext_policies)] W) : Tabs W :=
 tabs_of_laid h (by decide +kernel) (.tail _ (.tail _ (.tail _ (.head _)))) (.tail _ (.tail _ (.tail _ (.tail _ (.head _))))) (.tail _ (.tail _ (.head _)))
end Go.Proofs.YtlfokdbnbmebiaaDoor.Q
end
section
namespace Go.Proofs.YtlfokdbnbmebiaaDoor.Q
open Go.RowKit Go.Proofs.YtlfokdbnbmebiaaDoorW.PrintWords Go.Proofs.YtlfokdbnbmebiaaDoorW.PrintLast Go.Proofs.YtlfokdbnbmebiaaDoorW.PrintMore
set_option maxRecDepth 100000
theorem bInfo : (Tryd.prog.info? 67).map (·.size) = some 2 := by kernel_rfl
theorem bLies : liesAt Tryd.prog Tryd.prog.depth 69 (2 / Tryd.prog.cellsOf 69) 0 67 1 = true := by kernel_rfl
theorem bByte : (Tryd.prog.info? 5).map (fun i => (i.zero, i.size, i.bytes)) = some (some (.int .u8 0), 1, 1) := by kernel_rfl
theorem bld_used (b : Nat) (w : World) (h0 : w.cell? ⟨b, 0, none⟩ = some (.pointer (some ⟨b, 0, none⟩))) :
  Calls Tryd.prog 63 #[.pointer (some ⟨b, 0, none⟩)] w fun e w' => e = .returned (.tuple #[]) ∧ w' = w := by
 obtain ⟨j, hj, _⟩ := Option.map_eq_some_iff.1 bInfo
 go_enter Tryd.func63, Tryd.ntmps63
 go_wp2
 rw [Lib.run_neq_ptr_same w _ Tryd.underlying64 hj]
 go_wp2
 go_end0
 exact ⟨rfl, rfl⟩
theorem bld_fresh (b : Nat) (w : World) (h0 : w.cell? ⟨b, 0, none⟩ = some (.pointer none)) (hsh : w.shape? b = some (69, 2)) (hfz : w.frozen? ⟨b, 0, none⟩ = false) :
  Calls Tryd.prog 63 #[.pointer (some ⟨b, 0, none⟩)] w fun e w' => e = .returned (.tuple #[]) ∧ w' = w.setCell ⟨b, 0, none⟩ (.pointer (some ⟨b, 0, none⟩)) := by
 obtain ⟨j, hj, hjs⟩ := Option.map_eq_some_iff.1 bInfo
 go_enter Tryd.func63, Tryd.ntmps63
 go_wp2
 rw [Lib.run_to_unsafe w ⟨b, 0, none⟩ Tryd.underlying64 Tryd.underlying104 hj (by rw [hjs]; decide) hsh (Nat.zero_lt_succ 1)]
 simp only [Result.andThen]
 rw [Oper.upon_value]
 go_wp2
 rw [run_callFunc_extern Tryd.func78 (by kernel_rfl) (by kernel_rfl) (by kernel_rfl) (e := Extern.AbiNoEscape.same) (by kernel_rfl)]
 rw [Lib.run_noEscape]
 simp only [Result.andThen]
 rw [Oper.upon_value]
 go_wp2
 rw [Lib.run_from_unsafe w ⟨b, 0, none⟩ Tryd.underlying104 Tryd.underlying64 hj hsh bLies]
 simp only [Result.andThen]
 rw [Oper.upon_value]
 go_wp2
 go_end0
 exact ⟨rfl, rfl⟩
def Oth (b : Nat) (w w' : World) : Prop := ∀ (k : Nat) (cs : Array Value) (t : TypeId), k ≠ b → t ≠ 5 → t ≠ 9 → w.heap[k]? = some (.cells cs t (0, 0)) → w'.heap[k]? = some (.cells cs t (0, 0))
theorem Oth.refl (b : Nat) (w : World) : Oth b w w := fun k cs t _ _ _ h => h
theorem Oth.trans {b : Nat} {w w1 w2 : World} (h : Oth b w w1) (k : Oth b w1 w2) : Oth b w w2 := fun i cs t h1 h2 h3 h4 => k i cs t h1 h2 h3 (h i cs t h1 h2 h3 h4)
theorem Oth.below {b : Nat} {w w1 : World} (h : Below w.heap.size w w1) : Oth b w w1 := fun k cs t _ _ _ hk => blk_below hk h
theorem Oth.set {b : Nat} {w w1 : World} (h : Oth b w w1) (j : Nat) (v : Value) : Oth b w (w1.setCell ⟨b, j, none⟩ v) := fun k cs t h1 h2 h3 h4 => (Below.heap_setCell w1 ⟨b, j, none⟩ v k h1).trans (h k cs t h1 h2 h3 h4)
theorem Oth.grown {b : Nat} {w w1 : World} {row : Option Nat} (hg : w.grownBy w1 row) (hr : ∀ k, row = some k → ∃ cs t, (t = 5 ∨ t = 9) ∧ w.heap[k]? = some (.cells cs t (0, 0))) : Oth b w w1 := fun k cs t h1 h2 h3 h4 => blk_grown h4 hg (fun e => by
 obtain ⟨cs', t', ht, hc⟩ := hr k e.symm
 rw [h4] at hc
 injection hc with hc
 injection hc with _ hc
 rcases ht with ht | ht
 ·exact h2 (hc.trans ht)
 ·exact h3 (hc.trans ht))
theorem bld_check (B b : Nat) (bs : List Value) (w : World) (h : Lib.IsBuilder 69 5 B b bs w) :
  Calls Tryd.prog 63 #[.pointer (some ⟨b, 0, none⟩)] w fun e w' => e = .returned (.tuple #[]) ∧ (Lib.BuilderAt 69 5 B b (.pointer (some ⟨b, 0, none⟩)) bs w' ∧ Below B w w' ∧ Oth b w w') := by
 rcases h with h | h
 ·refine (bld_fresh b w h.cell0 h.shape h.frozen0).mono ?_
  rintro e w' ⟨rfl, rfl⟩
  exact ⟨rfl, h.used _, (Below.refl B w).setCell (p := ⟨b, 0, none⟩) h.1 _, (Oth.refl b w).set 0 _⟩
 ·refine (bld_used b w h.cell0).mono ?_
  rintro e w' ⟨rfl, rfl⟩
  exact ⟨rfl, h, Below.refl B _, Oth.refl _ _⟩
theorem bld_write (B b : Nat) (bs : List Value) (s : ByteArray) (w : World) (h : Lib.IsBuilder 69 5 B b bs w) (hlen : bs.length + s.size ≤ 140737488355328) (hBw : B ≤ w.heap.size) :
  Calls Tryd.prog 47 #[.pointer (some ⟨b, 0, none⟩), .string s] w fun e w' => e = .returned (.tuple #[.int .i64 s.size, .nilIface]) ∧ (Lib.BuilderAt 69 5 B b (.pointer (some ⟨b, 0, none⟩)) (bs ++ Lib.strCells s) w' ∧ Below B w w' ∧ Oth b w w') := by
 obtain ⟨i0, hi, hz0, hz1, hz2⟩ := info_parts bByte
 go_enter Tryd.func47, Tryd.ntmps47
 go_wp2_with (go_at_call 63; refine (bld_check B b bs _ h).mono ?_)
 rintro e w1 ⟨rfl, h1, hb1, ho1⟩
 obtain ⟨hB, v, hbk, hown, hne⟩ := h1
 have c0 : w1.cell? ⟨b, 0, none⟩ = some (.pointer (some ⟨b, 0, none⟩)) := by rw [Lib.cell_of_heap hbk]; rfl
 have c1 : w1.cell? ⟨b, 1, none⟩ = some v := by rw [Lib.cell_of_heap hbk]; rfl
 go_wp2_with (at_builtin; refine Lib.wpList_append_own_string _ rfl _ _ 65 9 rfl B 5 i0 Tryd.underlying65 Tryd.underlying9 hi hz0 hz1 hz2 _ _ _ rfl hown s rfl ?c3 ?c4 ?c5 ?_)
 case c3 => unfold maxLen; omega
 case c4 => omega
 case c5 => have := hb1.size; omega
 intro v' w2 hown' hgrow _
 have hlt : b < w1.heap.size := blk_lt hbk
 have hb2 : w2.heap[b]? = some (.cells #[.pointer (some ⟨b, 0, none⟩), v] 69 (0, 0)) := by
  rw [hgrow.block b hlt (fun e => hne e.symm)]
  exact hbk
 have d0 : w2.cell? ⟨b, 0, none⟩ = some (.pointer (some ⟨b, 0, none⟩)) := by rw [Lib.cell_of_heap hb2]; rfl
 have d1 : w2.cell? ⟨b, 1, none⟩ = some v := by rw [Lib.cell_of_heap hb2]; rfl
 have f1 : w2.frozen? ⟨b, 1, none⟩ = false := Lib.frozen_of_heap hb2 1
 obtain ⟨ao, n', cap, rfl⟩ : ∃ ao n' cap, v' = .slice ao n' cap := by
  rcases hown'.2 with ⟨hv, _⟩ | ⟨g, cap, cur, hv, _⟩
  ·exact ⟨_, _, _, hv⟩
  ·exact ⟨_, _, _, hv⟩
 go_wp2
 go_ret2
 refine ⟨rfl, ?_, ?_, ?_⟩
 ·exact Lib.BuilderAt.put (T := 69) (e := 5) hB hb2 (bs' := bs ++ Lib.strCells s) (by simpa [Lib.strCells_length] using hown') (by decide)
 ·exact (hb1.grown hgrow (by have := hb1.size; omega) (fun k hk => (hown.lt k hk).1)).setCell (p := ⟨b, 1, none⟩) hB _
 ·exact (ho1.trans (Oth.grown hgrow (fun k hk => by
   rcases hown.2 with ⟨hv, _⟩ | ⟨g, cap, cur, hv, _, hgc, _⟩
   ·rw [hv] at hk; simp [Value.ownBlock] at hk
   ·rw [hv] at hk; simp only [Value.ownBlock, Option.some.injEq] at hk; subst hk; exact ⟨cur, _, .inl rfl, hgc⟩))).set 1 _
theorem bld_string (B b : Nat) (l : List UInt8) (w : World) (h : Lib.IsBuilder 69 5 B b (Lib.byteCells l) w) (h0 : l ≠ []) :
  Calls Tryd.prog 32 #[.pointer (some ⟨b, 0, none⟩)] w fun e w' => e = .returned (.string ⟨l.toArray⟩) ∧ Below B w w' := by
 obtain ⟨p, hB, v, hbk, hown, hne⟩ : ∃ p, Lib.BuilderAt 69 5 B b p (Lib.byteCells l) w := by
  rcases h with h | h
  ·exact ⟨_, h⟩
  ·exact ⟨_, h⟩
 have hl0 : l.length ≠ 0 := by simpa using h0
 rw [Lib.byteCells_length] at hown
 obtain ⟨g, cap, cur, rfl, hbg, hg, hnc, hcm, hcs, htake⟩ : ∃ g cap cur, v = .slice (some ⟨g, 0, none⟩) l.length cap ∧ B ≤ g ∧ w.heap[g]? = some (.cells cur 5 (0, 0)) ∧ l.length ≤ cap ∧ cap ≤ maxLen ∧ cur.size = cap * 1 ∧ cur.toList.take (l.length * 1) = Lib.byteCells l := by
  rcases hown.2 with ⟨_, hz⟩ | ⟨g, cap, cur, hv, r⟩
  ·exact absurd hz hl0
  ·exact ⟨g, cap, cur, hv, r⟩
 have c1 : w.drew.cell? ⟨b, 1, none⟩ = some (.slice (some ⟨g, 0, none⟩) l.length cap) := by
  have : w.drew.heap[b]? = some (.cells #[p, .slice (some ⟨g, 0, none⟩) l.length cap] 69 (0, 0)) := hbk
  rw [Lib.cell_of_heap this]; rfl
 have hSD : (Builtin.unsafeSliceData_ #[65] 92 #[.slice (some ⟨g, 0, none⟩) l.length cap]).run Tryd.prog w.drew = .ok (.pointer (some ⟨g, 0, none⟩)) w.drew :=
  Lib.run_unsafeSliceData_row _ _ _ _ _ _ (by omega)
 have hUS : (Builtin.unsafeString_ #[92, 3] 9 #[.pointer (some ⟨g, 0, none⟩), .int .i64 l.length]).run Tryd.prog w.drew = .ok (.string ⟨l.toArray⟩) (w.drew.freeze ⟨g, 0, none⟩ l.length) := by
  refine Lib.run_unsafeString_row w.drew 92 3 9 5 Tryd.underlying92 (by kernel_rfl) g cur.size (by have hg' : w.drew.heap[g]? = some (.cells cur 5 (0, 0)) := hg; simp [World.shape?, hg']) l h0 (by omega) (by unfold maxLen at hcm; omega) ?_
  intro j x hx
  have := hown.cells (g := g) rfl j (.int .u8 x.toNat) (by simp [Lib.byteCells, hx])
  exact this
 go_enter Tryd.func32, Tryd.ntmps32
 have mixed : Tryd.prog.follows .mixedOrders = true := by kernel_rfl
 go_wp2
 go_region_o
 all_goals (go_wp2; go_ret; exact ⟨rfl, Lib.below_freeze (Below.drew (Below.refl B w)) (p := ⟨g, 0, none⟩) hbg _⟩)
end Go.Proofs.YtlfokdbnbmebiaaDoor.Q
end
section
namespace Go.Proofs.YtlfokdbnbmebiaaDoor.Q
open Go.RowKit Go.Proofs.YtlfokdbnbmebiaaDoorW.PrintWords Go.Proofs.YtlfokdbnbmebiaaDoorW.PrintLast Go.Proofs.YtlfokdbnbmebiaaDoorW.PrintMore
set_option maxRecDepth 100000
structure BF (w W : World) (bs : List (Nat × Obj)) : Prop where
 B : Below w.heap.size w W
 H : ∀ q ∈ bs, W.heap[q.1]? = some q.2
section
variable {w W : World} {bs : List (Nat × Obj)}
theorem BF.start (w : World) : BF w w [] := ⟨Below.refl _ _, fun q hq => by simp at hq⟩
theorem BF.drew (h : BF w W bs) : BF w W.drew bs := ⟨below_drew h.B, h.H⟩
theorem BF.alloc (h : BF w W bs) (o : Obj) : BF w (W.alloc o) bs := ⟨below_alloc h.B o, fun q hq => blk_alloc (h.H q hq) o⟩
theorem BF.make {b : Nat} (h : BF w W bs) (hb : W.heap.size = b) (o : Obj) : BF w (W.alloc o) (bs ++ [(b, o)]) := by
 subst hb
 refine ⟨below_alloc h.B o, fun q hq => ?_⟩
 rcases List.mem_append.1 hq with hq | hq
 ·exact blk_alloc (h.H q hq) o
 ·obtain rfl := List.mem_singleton.1 hq
  exact blk_new W o
theorem BF.step {W' : World} (h : BF w W bs) (hb : Below W.heap.size W W') : BF w W' bs := ⟨below_step h.B hb, fun q hq => blk_below (h.H q hq) hb⟩
theorem BF.has {b : Nat} {o : Obj} (h : BF w W bs) (hb : (b, o) ∈ bs) : W.heap[b]? = some o := h.H (b, o) hb
theorem BF.cell {b : Nat} {cs : Array Value} {t : TypeId} {v : Value} {i : Nat} (h : BF w W bs) (hb : (b, .cells cs t) ∈ bs) (hv : cs[i]? = some v) : W.cell? ⟨b, i, none⟩ = some v := (blk_cell (h.has hb) i).trans hv
theorem BF.tabs (h : BF w W bs) (hT : Tabs w) : Tabs W := hT.below h.B
end
def numB (n : Int) : ByteArray := ⟨(Lib.itoa n).toArray⟩
def inI (n : Int) : Prop := -9223372036854775808 ≤ n ∧ n ≤ 9223372036854775807
instance (n : Int) : Decidable (inI n) := inferInstanceAs (Decidable (_ ∧ _))
theorem num_any (w : World) (n : Int) (hn : inI n) (hT : Tabs w) : Calls Tryd.prog 30 #[.int .i64 n] w fun e w' => e = .returned (.string (numB n)) ∧ Below w.heap.size w w' := by
 have HI := Aside0.mk (Tryd.strconv_Itoa n hn.1 hn.2 w hT.tens)
 go_enter Tryd.func30, Tryd.ntmps30
 go_wp2_with fail
 refine Calls.mono HI.out ?_
 rintro e w1 ⟨rfl, k, os, hw⟩
 have HB := Aside0.mk (show Below w.heap.size w w1 by rw [hw]; exact Lib.below_grow w.heap.size w (Nat.le_refl _) k os)
 clear hw
 go_wp2_with fail
 go_ret
 exact ⟨rfl, HB.out⟩
theorem BF.num {w W : World} {bs : List (Nat × Obj)} (h : BF w W bs) (hT : Tabs w) (n : Int) (hn : inI n) : Calls Tryd.prog 30 #[.int .i64 n] W fun e w' => e = .returned (.string (numB n)) ∧ BF w w' bs :=
 (num_any W n hn (h.tabs hT)).mono fun e w' ⟨he, hb⟩ => ⟨he, h.step hb⟩
theorem BF.day {w W : World} {bs : List (Nat × Obj)} (h : BF w W bs) (hT : Tabs w) (n : Int) : Calls Tryd.prog 60 #[.int .i64 n] W fun e w' => e = .returned (.string (wkName n)) ∧ BF w w' bs :=
 (wk_name W n (h.tabs hT)).mono fun e w' ⟨he, hw⟩ => by subst hw; exact ⟨he, h⟩
def frF (k : Int) : Nat := if k = 1 then 66 else if k = 2 then 67 else 68
def frMap : Obj := .map #[{ key := .int .i64 1, val := .func (.func 66) #[] #[], born := 0 }, { key := .int .i64 2, val := .func (.func 67) #[] #[], born := 1 }, { key := .int .i64 3, val := .func (.func 68) #[] #[], born := 2 }] 3
theorem forms_any (w : World) : Calls Tryd.prog 50 #[] w fun e w' => e = .returned (.map (some w.heap.size)) ∧ w' = w.alloc frMap := by
 have hmm := @run_makeMap Tryd.prog
 have hmf : ∀ (fn : Fn) (first cap : Array Value) (w : World), (Instr.makeFunc fn first cap).run Tryd.prog w = .ok (.func fn first cap) w := fun _ _ _ _ => rfl
 have hK := Aside0.mk (Maps.int_keyed Tryd.underlying3)
 have hk1 : keyOf Tryd.prog 3 (.int .i64 1) = some (.int .i64 1) := Maps.keyOf_int_mk Tryd.underlying3 (by decide)
 have hk2 : keyOf Tryd.prog 3 (.int .i64 2) = some (.int .i64 2) := Maps.keyOf_int_mk Tryd.underlying3 (by decide)
 have hk3 : keyOf Tryd.prog 3 (.int .i64 3) = some (.int .i64 3) := Maps.keyOf_int_mk Tryd.underlying3 (by decide)
 have h1 := fun (w : World) v => run_ins hK.out Tryd.underlying90 w #[] 0 (.int .i64 1) v hk1 (by simp) (by simp)
 have h2 := fun (w : World) v u => run_ins hK.out Tryd.underlying90 w #[{ key := .int .i64 1, val := u, born := 0 }] 1 (.int .i64 2) v hk2 (by intro e he; simp at he; subst he; exact ⟨_, hk1⟩) (by intro e he; simp at he; subst he; simp)
 have h3 := fun (w : World) v u u2 => run_ins hK.out Tryd.underlying90 w #[{ key := .int .i64 1, val := u, born := 0 }, { key := .int .i64 2, val := u2, born := 1 }] 2 (.int .i64 3) v hk3 (by intro e he; simp at he; rcases he with rfl | rfl <;> first | exact ⟨_, hk1⟩ | exact ⟨_, hk2⟩) (by intro e he; simp at he; rcases he with rfl | rfl <;> simp)
 simp at h1 h2 h3
 clear hk1 hk2 hk3 hK
 go_enter Tryd.func50, Tryd.ntmps50
 go_wp2_with fail
 go_ret
 exact ⟨rfl, rfl⟩
theorem run_hit1 {P : Program} {t kt et : TypeId} (K : Maps.Keyed P kt) (hT : P.underlying t = some (.map kt et)) {w : World} {b : Nat} {es : Array MapEntry} {c : Nat} (hg : w.heap[b]? = some (.map es c)) (x v : Value) {lx : Lit} (hx : keyOf P kt x = some lx) (hes : ∀ e ∈ es.toList, ∃ l, keyOf P kt e.key = some l) (hv : ∀ e ∈ es.toList, e.key = x → e.val = v) (hin : ∃ e ∈ es.toList, e.key = x) :
  (Instr.lookup t (.map (some b)) x false).run P w = .ok v w := by
 have hf : ∃ j, (Instr.findKey kt x es.toList).run P w = .ok (some (j, v)) w := by
  rcases K.find w hx es.toList hes with h | ⟨j, e, h1, h2, h3⟩
  ·obtain ⟨e, h4, h5⟩ := hin
   exact absurd h5 (h.2 e h4)
  ·exact ⟨j, by rw [h1, hv e (List.mem_of_getElem? h2) h3]⟩
 obtain ⟨j, hf⟩ := hf
 simp [Instr.lookup, run_underlying hT, MapKept.run_getObj_map hg, K.check w _ hx, hf, Result.andThen]
def okK (k : Int) : Prop := k = 1 ∨ k = 2 ∨ k = 3
instance (k : Int) : Decidable (okK k) := inferInstanceAs (Decidable (_ ∨ _))
theorem fr_look (k : Int) (hp : okK k) (bm : Nat) (W : World) (h : W.heap[bm]? = some frMap) : (Instr.lookup 90 (.map (some bm)) (.int .i64 k) false).run Tryd.prog W = .ok (.func (.func (frF k)) #[] #[]) W := by
 have hk : ∀ x : Int, (Lit.int .i64 x).wf = true → keyOf Tryd.prog 3 (.int .i64 x) = some (.int .i64 x) := fun x h => Maps.keyOf_int_mk Tryd.underlying3 h
 refine run_hit1 (Maps.int_keyed Tryd.underlying3) Tryd.underlying90 h _ _ (hk k (by rcases hp with rfl | rfl | rfl <;> decide)) ?_ ?_ ?_
 ·intro e he
  simp at he
  rcases he with rfl | rfl | rfl
  ·exact ⟨_, hk 1 (by decide)⟩
  ·exact ⟨_, hk 2 (by decide)⟩
  ·exact ⟨_, hk 3 (by decide)⟩
 ·intro e he hx
  simp at he
  rcases he with rfl | rfl | rfl <;> (injection hx with _ hx; subst hx; rfl)
 ·rcases hp with rfl | rfl | rfl
  ·exact ⟨_, List.Mem.head _, rfl⟩
  ·exact ⟨_, List.Mem.tail _ (List.Mem.head _), rfl⟩
  ·exact ⟨_, List.Mem.tail _ (List.Mem.tail _ (List.Mem.head _)), rfl⟩
def frW (a : S39) : List ByteArray :=
 if a.f0 = 1 then [⟨#[102, 105, 120, 101, 100]⟩, numB a.f1, numB a.f2] else if a.f0 = 2 then [⟨#[101, 97, 115, 116, 101, 114]⟩, numB a.f3] else [⟨#[110, 116, 104]⟩, wkName a.f4, numB a.f5, numB a.f1, numB a.f2]
theorem frF_call (k : Int) (args : Array Value) (W : World) : (callFunc (frF k) args).run Tryd.prog W = .ok (.enter (frF k) args) W := by
 unfold frF
 split
 ·rfl
 ·split <;> rfl
def inA (a : S39) : Prop := okK a.f0 ∧ inI a.f1 ∧ inI a.f2 ∧ inI a.f3 ∧ inI a.f5
instance (a : S39) : Decidable (inA a) := inferInstanceAs (Decidable (_ ∧ _))
def agA (a : S39) : Value := .agg #[.int .i64 a.f0, .int .i64 a.f1, .int .i64 a.f2, .int .i64 a.f3, .int .i64 a.f4, .int .i64 a.f5]
theorem strs_C {W : World} {b : Nat} {xs : List ByteArray} (h : W.heap[b]? = some (.cells (xs.map Value.string).toArray 9 (0, 0))) (hl : xs.length ≤ 9223372036854775807) : Kd.string.C W (some ⟨b, 0, none⟩) xs.length xs :=
 strings_C h hl (fun j hj => by simp [List.getElem?_eq_getElem hj, List.getD])
theorem form_any (w : World) (a : S39) (ha : inA a) (hT : Tabs w) :
  Calls Tryd.prog (frF a.f0) #[agA a] w fun e w' => ∃ bk, e = .returned (.slice (some ⟨bk, 0, none⟩) (frW a).length (frW a).length) ∧ w'.heap[bk]? = some (.cells ((frW a).map Value.string).toArray 9 (0, 0)) ∧ Below w.heap.size w w' := by
 obtain ⟨k, m, d, o, wd, n⟩ := a
 obtain ⟨hk, hm, hd, ho, hn⟩ := ha
 simp only at hk hm hd ho hn
 have HI := Aside0.mk (And.intro hm (And.intro hd (And.intro ho hn)))
 have HT := Aside0.mk hT
 have HF := Aside0.mk ((BF.start w).make rfl (.cells #[.int .i64 k, .int .i64 m, .int .i64 d, .int .i64 o, .int .i64 wd, .int .i64 n] 39))
 have hb := HF.out.has (List.Mem.head _)
 clear hm hd ho hn hT
 rcases hk with rfl | rfl | rfl
 ·have e1 : frF 1 = 66 := rfl
  have e2 : frW ⟨1, m, d, o, wd, n⟩ = [⟨#[102, 105, 120, 101, 100]⟩, numB m, numB d] := rfl
  rw [show (S39.mk 1 m d o wd n).f0 = 1 from rfl, e1, e2, agA]
  clear e1 e2
  go_enter Tryd.func66, Tryd.ntmps66
  go_wp2_with fail
  go_region_held3 (fun w' => w'.cell? ⟨w.heap.size, 1, none⟩ = some (.int .i64 m) ∧ w'.cell? ⟨w.heap.size, 2, none⟩ = some (.int .i64 d)) (first | (with_reducible exact ⟨HF.out.cell (List.Mem.head _) rfl, HF.out.cell (List.Mem.head _) rfl⟩) | go_keep) (first | (go_at_call 30; (first | (with_reducible refine Calls.mono (HF.out.drew.num HT.out _ HI.out.1) ?_) | (with_reducible refine Calls.mono (HF.out.num HT.out _ HI.out.2.1) ?_)); rintro e w2 ⟨rfl, h2⟩; have n0_ := Aside0.mk h2; clear HF h2; have HF := n0_; clear n0_))
  go_wp2_with fail
  go_ret
  exact ⟨_, rfl, blk_new _ _, (HF.out.alloc _).B⟩
 ·have e1 : frF 2 = 67 := rfl
  have e2 : frW ⟨2, m, d, o, wd, n⟩ = [⟨#[101, 97, 115, 116, 101, 114]⟩, numB o] := rfl
  rw [show (S39.mk 2 m d o wd n).f0 = 2 from rfl, e1, e2, agA]
  clear e1 e2
  go_enter Tryd.func67, Tryd.ntmps67
  go_wp2_with fail
  refine Calls.mono (HF.out.num HT.out _ HI.out.2.2.1) ?_
  rintro e w2 ⟨rfl, h2⟩
  have HF2 := Aside0.mk h2
  clear HF h2
  go_wp2_with fail
  go_ret
  exact ⟨_, rfl, blk_new _ _, (HF2.out.alloc _).B⟩
 ·have e1 : frF 3 = 68 := rfl
  have e2 : frW ⟨3, m, d, o, wd, n⟩ = [⟨#[110, 116, 104]⟩, wkName wd, numB n, numB m, numB d] := rfl
  rw [show (S39.mk 3 m d o wd n).f0 = 3 from rfl, e1, e2, agA]
  clear e1 e2
  go_enter Tryd.func68, Tryd.ntmps68
  go_wp2_with fail
  go_region_held3 (fun w' => w'.cell? ⟨w.heap.size, 1, none⟩ = some (.int .i64 m) ∧ w'.cell? ⟨w.heap.size, 2, none⟩ = some (.int .i64 d) ∧ w'.cell? ⟨w.heap.size, 4, none⟩ = some (.int .i64 wd) ∧ w'.cell? ⟨w.heap.size, 5, none⟩ = some (.int .i64 n)) (first | (with_reducible exact ⟨HF.out.cell (List.Mem.head _) rfl, HF.out.cell (List.Mem.head _) rfl, HF.out.cell (List.Mem.head _) rfl, HF.out.cell (List.Mem.head _) rfl⟩) | go_keep) (first | (go_at_call 60; (with_reducible refine Calls.mono (HF.out.drew.day HT.out _) ?_); rintro e w2 ⟨rfl, h2⟩; have n0_ := Aside0.mk h2; clear HF h2; have HF := n0_; clear n0_) | (go_at_call 30; (first | (with_reducible refine Calls.mono (HF.out.num HT.out _ HI.out.2.2.2) ?_) | (with_reducible refine Calls.mono (HF.out.num HT.out _ HI.out.1) ?_) | (with_reducible refine Calls.mono (HF.out.num HT.out _ HI.out.2.1) ?_)); rintro e w2 ⟨rfl, h2⟩; have n0_ := Aside0.mk h2; clear HF h2; have HF := n0_; clear n0_))
  go_wp2_with fail
  go_ret
  exact ⟨_, rfl, blk_new _ _, (HF.out.alloc _).B⟩
def lineL (ws : List ByteArray) : List UInt8 := Lib.join (ws.map (·.data.toList)) [32] ++ [10]
def IsP (B b : Nat) (l : List UInt8) (w : World) : Prop := Lib.IsBuilder 69 5 B b (Lib.byteCells l) w
theorem IsP.below {B b : Nat} {l : List UInt8} {w W : World} (h : IsP B b l w) (hb : Below w.heap.size w W) : IsP B b l W := by
 rcases h with h | h
 ·obtain ⟨hB, v, hk, ho, hne⟩ := h
  exact .inl ⟨hB, v, blk_below hk hb, own_move ho (fun k hk => hb.block k (own_lt ho k hk)), hne⟩
 ·obtain ⟨hB, v, hk, ho, hne⟩ := h
  exact .inr ⟨hB, v, blk_below hk hb, own_move ho (fun k hk => hb.block k (own_lt ho k hk)), hne⟩
theorem IsP.drew {B b : Nat} {l : List UInt8} {w : World} (h : IsP B b l w) : IsP B b l w.drew := h
theorem line_any (B b : Nat) (w : World) (l : List UInt8) (ws : List ByteArray) (bk n c : Nat) (hP : IsP B b l w) (hBw : B ≤ w.heap.size) (hn : ws.length = n) (hc : n ≤ c) (hbk : bk < w.heap.size) (hcells : ∀ (j : Nat) x, ws[j]? = some x → w.cell? ⟨bk, j, none⟩ = some (.string x)) (hlen : l.length + (lineL ws).length ≤ 140737488355328) (hN : ws.length ≤ 140737488355328) :
  Calls Tryd.prog 29 #[.pointer (some ⟨b, 0, none⟩), .slice (some ⟨bk, 0, none⟩) n c] w fun e w' => e = .returned (.tuple #[]) ∧ IsP B b (l ++ lineL ws) w' ∧ Below B w w' ∧ Oth b w w' := by
 subst hn
 have hl2 : (Lib.join (ws.map (·.data.toList)) [32]).length + 1 = (lineL ws).length := by simp [lineL]
 have HJ := fun (W : World) (hW : W.heap = w.heap) => Aside0.mk (Tryd.strings_Join bk 0 c ws ⟨#[32]⟩ W (fun j x h => by rw [Nat.zero_add]; exact (World.cell?_of_block (w := w) (w' := W) (a := ⟨bk, j, none⟩) (by rw [hW])).trans (hcells j x h)) (by rw [hW]; exact hbk) hN hc (by show (Lib.join (ws.map (·.data.toList)) [32]).length ≤ _; omega))
 have HJ := HJ w.drew rfl
 obtain ⟨J, hJ⟩ : ∃ J : ByteArray, J = ⟨(Lib.join (ws.map (·.data.toList)) (⟨#[32]⟩ : ByteArray).data.toList).toArray⟩ := ⟨_, rfl⟩
 rw [← hJ] at HJ
 have hsz : J.size + 1 ≤ 9223372036854775807 := by
  have e : J.size = (Lib.join (ws.map (·.data.toList)) [32]).length := by rw [hJ]; rfl
  omega
 have HJJ := Aside0.mk hJ
 clear hJ
 have hP0 := Aside0.mk hP
 have HL := Aside0.mk (And.intro hl2 hlen)
 have HB := Aside0.mk hBw
 clear hP hBw hcells hlen hl2
 go_enter Tryd.func29, Tryd.ntmps29
 have hsz2 : (Lib.byteCells l).length + (J ++ ⟨#[10]⟩ : ByteArray).size ≤ 140737488355328 := by
  have e : J.size = (Lib.join (ws.map (·.data.toList)) [32]).length := by rw [HJJ.out]; rfl
  have h2 : (J ++ ⟨#[10]⟩ : ByteArray).size = J.size + 1 := by simp [ByteArray.size_append]; rfl
  have h1 := HL.out
  rw [Lib.byteCells_length]
  omega
 have HWr := fun (W : World) (hb : Below w.heap.size w W) => Aside0.mk (bld_write B b (Lib.byteCells l) (J ++ ⟨#[10]⟩) W (hP0.out.below hb) hsz2 (Nat.le_trans HB.out hb.size))
 go_region_with (first | (go_at_call 48; refine Calls.mono HJ.out ?_; rintro e w1 ⟨rfl, h1⟩; have H1 := Aside0.mk (HWr w1 (below_step (below_drew (Below.refl _ _)) h1)).out; have HB1 := Aside0.mk h1; clear h1) | (go_at_call 47; refine Calls.mono H1.out ?_; rintro e w2 ⟨rfl, h2, h3, h4⟩))
 go_end0
 refine ⟨rfl, .inr ?_, ((Below.drew (Below.refl B w)).trans (HB1.out.mono HB.out)).trans h3, (Oth.below (below_step (below_drew (Below.refl w.heap.size w)) HB1.out)).trans h4⟩
 have e : Lib.byteCells l ++ Lib.strCells (J ++ ⟨#[10]⟩) = Lib.byteCells (l ++ lineL ws) := by
  rw [Lib.byteCells_append, Lib.strCells_eq]
  congr 2
  rw [HJJ.out]
  show ((⟨(Lib.join (ws.map (·.data.toList)) [32]).toArray⟩ : ByteArray) ++ ⟨#[10]⟩).data.toList = _
  simp [lineL]
 rw [← e]
 exact h2
end Go.Proofs.YtlfokdbnbmebiaaDoor.Q
end
section
namespace Go.Proofs.YtlfokdbnbmebiaaDoor.Q
open Go.RowKit Go.Proofs.YtlfokdbnbmebiaaDoorW.PrintWords Go.Proofs.YtlfokdbnbmebiaaDoorW.PrintLast Go.Proofs.YtlfokdbnbmebiaaDoorW.PrintMore
set_option maxRecDepth 100000
theorem forms_map (w : World) : Calls Tryd.prog 50 #[] w fun e w' => ∃ bm, e = .returned (.map (some bm)) ∧ w'.heap[bm]? = some frMap ∧ Below w.heap.size w w' :=
 (forms_any w).mono fun e w' ⟨he, hw⟩ => by subst hw; exact ⟨_, he, blk_new _ _, below_alloc (Below.refl _ _) _⟩
theorem R_row {w : World} {B : Nat} {v : Value} {ws : List ByteArray} (h : Kd.R Kd.string 9 w B (fun _ => True) v ws) (hne : ws ≠ []) : ∃ g c, v = .slice (some ⟨g, 0, none⟩) ws.length c ∧ ws.length ≤ c ∧ g < w.heap.size ∧ B ≤ g ∧ (∃ cs, w.heap[g]? = some (.cells cs 9 (0, 0))) ∧ ∀ (j : Nat) x, ws[j]? = some x → w.cell? ⟨g, j, none⟩ = some (.string x) := by
 obtain ⟨_, inner, ho, hr⟩ := h
 have ho2 := ho
 rcases ho.2 with ⟨_, h0⟩ | ⟨g, cap, cur, hv, hB, hg, hn, _⟩
 ·exact absurd (List.length_eq_zero_iff.1 h0) hne
 ·subst hv
  refine ⟨g, cap, rfl, hn, blk_lt hg, hB, ⟨_, hg⟩, fun j x hx => ?_⟩
  have h1 : (inner.drop (j * 1)).take 1 = [Value.string x] := hr.2 j x hx
  have h2 : inner[j]? = some (.string x) := by
   have h3 := congrArg (·[0]?) h1
   simpa using h3
  have h4 := ho2.cells (g := g) rfl j _ h2
  rwa [show (Addr.add ⟨g, 0, none⟩ j) = ⟨g, j, none⟩ from by
   unfold Addr.add
   split
   ·rename_i h0; subst h0; rfl
   ·simp] at h4
theorem IsP.lt {B b : Nat} {l : List UInt8} {w : World} (h : IsP B b l w) : b < w.heap.size := by
 rcases h with h | h <;> exact h.lt
theorem IsP.grown {B b : Nat} {l : List UInt8} {w W : World} {row : Option Nat} (h : IsP B b l w) (hg : w.grownBy W row) (hr : ∀ k, row = some k → ∃ cs, w.heap[k]? = some (.cells cs 9 (0, 0))) : IsP B b l W := by
 have key : ∀ p, Lib.BuilderAt 69 5 B b p (Lib.byteCells l) w → Lib.BuilderAt 69 5 B b p (Lib.byteCells l) W := by
  rintro p ⟨hB, v, hk, ho, hne⟩
  refine ⟨hB, v, blk_grown hk hg (fun e => ?_), ho.kept hg ?_, hne⟩
  ·obtain ⟨cs, hc⟩ := hr b e.symm
   rw [hk] at hc
   injection hc with hc
   injection hc with _ hc
   exact absurd hc (by decide)
  ·rcases ho.2 with ⟨rfl, _⟩ | ⟨g, cap, cur, rfl, _, hgc, _⟩
   ·exact .inl rfl
   ·refine .inr (fun e => ?_)
    obtain ⟨cs, hc⟩ := hr g e.symm
    rw [hgc] at hc
    injection hc with hc
    injection hc with _ hc
    exact absurd hc (by decide)
 rcases h with h | h
 ·exact .inl (key _ h)
 ·exact .inr (key _ h)
theorem own_str {w W : World} {B : Nat} {v : Value} {ws : List ByteArray} (h : Kd.R Kd.string 9 w B (fun _ => True) v ws) (hb : Below w.heap.size w W) : ∀ k, v.ownBlock = some k → ∃ cs, W.heap[k]? = some (.cells cs 9 (0, 0)) := by
 intro k hk
 obtain ⟨_, _, _, q, hq, cs, hc⟩ := (Kd.R_bound h).1 k hk
 obtain rfl := List.mem_singleton.1 hq
 exact ⟨cs, blk_below hc hb⟩
theorem own_str2 {w W : World} {B : Nat} {v : Value} {ws : List ByteArray} (h : Kd.R Kd.string 9 w B (fun _ => True) v ws) (hb : Below w.heap.size w W) : ∀ k, v.ownBlock = some k → ∃ cs t, (t = 5 ∨ t = 9) ∧ W.heap[k]? = some (.cells cs t (0, 0)) := by
 intro k hk
 obtain ⟨cs, hc⟩ := own_str h hb k hk
 exact ⟨cs, _, .inr rfl, hc⟩
theorem Oth.six {b N : Nat} {w W : World} {a0 a1 a2 a3 a4 a5 : Value} (h : Oth b w W) (hn : N ≠ b) (hk : w.heap[N]? = some (.cells #[a0, a1, a2, a3, a4, a5] 39 (0, 0))) : W.heap[N]? = some (.cells #[a0, a1, a2, a3, a4, a5] 39 (0, 0)) := h N _ _ hn (by decide) (by decide) hk
theorem len_le {x y : List ByteArray} {c : Nat} (h : (x ++ y).length ≤ c) : x.length + y.length ≤ c := by rwa [List.length_append] at h
theorem cells_grown {w W : World} {g : Nat} {row : Option Nat} {a0 a1 a2 a3 a4 a5 : Value} (h : w.heap[g]? = some (.cells #[a0, a1, a2, a3, a4, a5] 39 (0, 0))) (hg : w.grownBy W row) (hr : ∀ k, row = some k → ∃ cs, w.heap[k]? = some (.cells cs 9 (0, 0))) : W.heap[g]? = some (.cells #[a0, a1, a2, a3, a4, a5] 39 (0, 0)) :=
 blk_grown h hg (fun e => by
  obtain ⟨cs, hc⟩ := hr g e.symm
  rw [h] at hc
  injection hc with hc
  injection hc with _ hc
  exact absurd hc (by decide))
theorem anchored_any (B b : Nat) (w : World) (l : List UInt8) (ws : List ByteArray) (v : Value) (a : S39) (hP : IsP B b l w) (hBw : B ≤ w.heap.size) (hA : inA a) (hT : Tabs w) (hR : Kd.R Kd.string 9 w B (fun _ => True) v ws) (hN : ws.length ≤ 1000) (hlen : l.length + (lineL (ws ++ frW a)).length ≤ 140737488355328) :
  Calls Tryd.prog 31 #[.pointer (some ⟨b, 0, none⟩), agA a, v] w fun e w' => e = .returned (.tuple #[]) ∧ IsP B b (l ++ lineL (ws ++ frW a)) w' ∧ Below B w w' ∧ Oth b w w' := by
 have hf5 : (frW a).length ≤ 5 := by unfold frW; split; exact Nat.le_of_ble_eq_true rfl; split <;> exact Nat.le_of_ble_eq_true rfl
 have hf1 : ws ++ frW a ≠ [] := by unfold frW; split; simp; split <;> simp
 have hlk := fun (bm : Nat) (W : World) (h : W.heap[bm]? = some frMap) => fr_look a.f0 hA.1 bm W h
 have hcf := frF_call a.f0
 obtain ⟨N, hN0⟩ : ∃ N, N = w.heap.size := ⟨_, rfl⟩
 have hF := (BF.start w).make hN0.symm (.cells #[.int .i64 a.f0, .int .i64 a.f1, .int .i64 a.f2, .int .i64 a.f3, .int .i64 a.f4, .int .i64 a.f5] 39)
 have HF := Aside0.mk hF
 have HN := Aside0.mk hN0
 have HNb := Aside0.mk (show N ≠ b from by have h1 := hP.lt; omega)
 have c0 := HF.out.cell (i := 0) (List.Mem.head _) rfl
 have HT := Aside0.mk hT
 have HA := Aside0.mk hA
 have HR := Aside0.mk hR
 have HP := Aside0.mk hP
 have HB := Aside0.mk hBw
 have HL := Aside0.mk hlen
 have HS := Aside0.mk hN
 have HF5 := Aside0.mk hf5
 have HLK := Aside0.mk hlk
 clear hT hA hR hP hBw hlen hN hf5 hlk hF
 obtain ⟨A, n, c, rfl⟩ : ∃ A n c, v = .slice A n c := by
  obtain ⟨A, c, rfl⟩ := Kd.R_slice HR.out
  exact ⟨_, _, _, rfl⟩
 have HCL := Aside0.mk (fun (W : World) (h : Tabs W) => form_any W a HA.out h)
 rw [agA] at HCL ⊢
 go_enter Tryd.func31, Tryd.ntmps31
 go_wp2_with fail
 rw [← hN0]
 clear hN0
 go_region_held3 (fun w' => w'.cell? ⟨N, 0, none⟩ = some (.int .i64 a.f0) ∧ w'.cell? ⟨N, 1, none⟩ = some (.int .i64 a.f1) ∧ w'.cell? ⟨N, 2, none⟩ = some (.int .i64 a.f2) ∧ w'.cell? ⟨N, 3, none⟩ = some (.int .i64 a.f3) ∧ w'.cell? ⟨N, 4, none⟩ = some (.int .i64 a.f4) ∧ w'.cell? ⟨N, 5, none⟩ = some (.int .i64 a.f5))
  (first | (with_reducible exact ⟨HF.out.drew.cell (List.Mem.head _) rfl, HF.out.drew.cell (List.Mem.head _) rfl, HF.out.drew.cell (List.Mem.head _) rfl, HF.out.drew.cell (List.Mem.head _) rfl, HF.out.drew.cell (List.Mem.head _) rfl, HF.out.drew.cell (List.Mem.head _) rfl⟩) | (with_reducible exact ⟨HF.out.cell (List.Mem.head _) rfl, HF.out.cell (List.Mem.head _) rfl, HF.out.cell (List.Mem.head _) rfl, HF.out.cell (List.Mem.head _) rfl, HF.out.cell (List.Mem.head _) rfl, HF.out.cell (List.Mem.head _) rfl⟩) | exact (six HF7.out).1 | go_keep)
  (first | (go_at_call 50; refine Calls.mono (forms_map _) ?_; rintro e w1 ⟨bm, rfl, h1, h2⟩; have n0_ := Aside0.mk (HF.out.drew.step h2); clear HF h2; have HF := n0_; clear n0_; have hlk := HLK.out bm w1 h1; clear h1) | (with_reducible refine Calls.mono (HCL.out w1 (HF.out.tabs HT.out)) ?_; rintro e w2 ⟨bk, rfl, h1, h2⟩; have n0_ := Aside0.mk (HF.out.step h2); clear HF h2; have HF := n0_; clear n0_; have HW2 := Aside0.mk h1; clear h1) | (refine Kd.R_append_rows_step Kd.string (w0 := w2) B (by rfl) (.tmp 7) (.tmp 13) 55 9 (.string ⟨#[]⟩) 16 rfl Tryd.underlying55 info9 rfl (by decide) (by omega) (.slice A n c) ws (frW a) (some ⟨bk, 0, none⟩) (frW a).length (frW a).length (fun _ => True) (fun _ => False) rfl rfl (Kd.R_below HR.out HF.out.B) (strs_C HW2.out (by have := HF5.out; omega)) (fun _ _ h => h) (fun _ h => h.elim) (fun _ _ => trivial) (Below.refl _ _) (Nat.le_trans HB.out HF.out.B.size) (by have h1 := HF5.out; have h2 := HS.out; omega) ?_; intro v6 w6 hr hb hg hat; obtain ⟨g, c6, rfl, hc6, hg6, hgB, hty, hcells⟩ := R_row hr hf1; have HLN := Aside0.mk (line_any B b w6 l (ws ++ frW a) g (ws.length + (frW a).length) c6 ((HP.out.below HF.out.B).grown hg (own_str HR.out HF.out.B)) (Nat.le_trans HB.out (Nat.le_trans HF.out.B.size hb.size)) List.length_append (len_le hc6) hg6 hcells HL.out (by have h1 := HF5.out; have h2 := HS.out; simp only [List.length_append]; omega)); have HB6 := Aside0.mk ((HF.out.B.mono HB.out).trans hb); have HO6 := Aside0.mk ((Oth.below (b := b) HF.out.B).trans (Oth.grown hg (own_str2 HR.out HF.out.B))); have HF7 := Aside0.mk (cells_grown (HF.out.has (List.Mem.head _)) hg (own_str HR.out HF.out.B)); clear hr hb hg hat hty hcells hg6 hgB hc6 HF HW2) | (go_at_call 29; with_reducible refine Calls.mono HLN.out ?_; rintro e w7 ⟨rfl, h3, h4, h5⟩; have H7 := Aside0.mk (And.intro h3 (HB6.out.trans h4)); have HO7 := Aside0.mk (HO6.out.trans h5); have n0_ := Aside0.mk (h5.six HNb.out HF7.out); clear HF7; have HF7 := n0_; clear n0_ h3 h4 h5))
 go_wp2_with fail
 go_end0
 exact ⟨rfl, H7.out.1, H7.out.2, HO7.out⟩
end Go.Proofs.YtlfokdbnbmebiaaDoor.Q
end
