/- What is proved: what the statement OrdotextOffsetsSaid needs, part 8 of 12; the last part proves the statement. No condition. -/
import Derived.Test.YtlchefonlfokgaaDoorZOOs6
import Derived.LoopTactic
import Derived.Lib.ItoaNum
import Derived.Lib.LaidTab
import Derived.Stop.LaidErr
set_option maxHeartbeats 8000000
set_option maxRecDepth 100000
set_option linter.unusedVariables false
set_option linter.unusedSimpArgs false
section
namespace Go.Proofs.YtlchefonlfokgaaDoor.Q
open Go.RowKit Go.Proofs.YtlchefonlfokgaaDoorW.PrintWords Go.Proofs.YtlchefonlfokgaaDoorW.PrintLast Go.Proofs.YtlchefonlfokgaaDoorW.PrintMore
end Go.Proofs.YtlchefonlfokgaaDoor.Q
end
section
namespace Go.Proofs.YtlchefonlfokgaaDoor.Q
open Go.RowKit Go.Proofs.YtlchefonlfokgaaDoorW.PrintWords Go.Proofs.YtlchefonlfokgaaDoorW.PrintLast Go.Proofs.YtlchefonlfokgaaDoorW.PrintMore
end Go.Proofs.YtlchefonlfokgaaDoor.Q
end
section
namespace Go.Proofs.YtlchefonlfokgaaDoor.Q
open Go.RowKit Go.Proofs.YtlchefonlfokgaaDoorW.PrintWords Go.Proofs.YtlchefonlfokgaaDoorW.PrintLast Go.Proofs.YtlchefonlfokgaaDoorW.PrintMore
attribute [local go_sem] max2_int min2_int max_two min_two max_three min_three max_four min_four





end Go.Proofs.YtlchefonlfokgaaDoor.Q
end
section
namespace Go.Proofs.YtlchefonlfokgaaDoor.Q
open Go.RowKit Go.Proofs.YtlchefonlfokgaaDoorW.PrintWords Go.Proofs.YtlchefonlfokgaaDoorW.PrintLast Go.Proofs.YtlchefonlfokgaaDoorW.PrintMore
set_option maxRecDepth 100000
def strData (xs : List (List UInt8)) : DataW Unit := .agg (xs.map fun x => .lit (.string x))
def StrsAt (w : World) (g : Nat) (xs : List ByteArray) : Prop := ∃ t fr, w.heap[g]? = some (.cells (xs.map Value.string).toArray t fr)
theorem cells_of_strs {P : Program} {w : World} {base : Nat} {sp : Nat → Bool} {held : Bool} {fuel : Nat} {t e : TypeId} {n : Nat} {cs : List Value} {zs : List (List UInt8)} {p : List MemPlace}
  (ht : P.underlying t = some (.array n e)) (he : P.underlying e = some .string) (hce : P.cellsOf e = 1) (hct : P.cellsOf t = n)
  (h : DataW.trod (fun _ => ()) P w base sp held fuel t cs = some (strData zs, p)) : cs = zs.map fun z => Value.string ⟨z.toArray⟩ := by
 cases fuel with
 | zero => simp [DataW.trod] at h
 | succ fuel =>
  simp only [DataW.trod, ht, hce, hct, Nat.mul_one] at h
  split at h
  ·rename_i hl
   obtain ⟨xs, hm, hx⟩ := Option.map_eq_some_iff.1 h
   have hxs : xs.map (·.1) = zs.map fun z => (DataW.lit (.string z) : DataW Unit) := by
    have := congrArg Prod.fst hx
    simpa [strData] using this
   have hxl : xs.length = n := by simpa using Lib.mapM_length hm
   have hzl : zs.length = n := by
    have := congrArg List.length hxs
    simp at this
    omega
   apply List.ext_getElem?
   intro i
   by_cases hi : i < n
   ·obtain ⟨b, hb, hf⟩ := Lib.mapM_at hm i i (by simp [hi])
    obtain ⟨z, hc, rfl, _⟩ := DataW.trod_string he hf
    have h1 : cs[i]? = some (.string z) := by
     have := congrArg (·[0]?) hc
     simpa [List.getElem?_take, List.getElem?_drop] using this
    have h2 : (xs.map (·.1))[i]? = some (DataW.lit (.string z.data.toList) : DataW Unit) := by simp [hb]
    rw [hxs] at h2
    simp only [List.getElem?_map, Option.map_eq_some_iff, DataW.lit.injEq, Lit.string.injEq] at h2
    obtain ⟨z', hz', hz2⟩ := h2
    simp [h1, hz', hz2]
   ·rw [List.getElem?_eq_none (by omega), List.getElem?_eq_none (by simp; omega)]
  ·cases h
theorem strsAt_of_laid {P : Program} {W : World} {name : String} {zs : List (List UInt8)} {l : List (String × DataW Unit)} {g : Nat} {t e : TypeId} {n : Nat}
  (hg : P.globalNamed name = some g) (hty : (P.globals[g]?).map (·.type) = some t) (ht : P.underlying t = some (.array n e)) (he : P.underlying e = some .string) (hce : P.cellsOf e = 1) (hct : P.cellsOf t = n)
  (h : laidMet P l W) (hin : (name, strData zs) ∈ l) : StrsAt W g (zs.map fun z => ⟨z.toArray⟩) := by
 induction l with
 | nil => simp at hin
 | cons x r ih =>
  rcases List.mem_cons.1 hin with rfl | hin
  ·obtain ⟨ps, ⟨g', t', cs, fuel, p, q, hg', ht', hvar, hd, _, _⟩, _⟩ := h
   obtain rfl := Option.some.inj (hg.symm.trans hg')
   obtain rfl := Option.some.inj (hty.symm.trans ht')
   have h1 := cells_of_strs ht he hce hct hd
   simp only [World.var?, hg, Option.bind_some] at hvar
   split at hvar
   ·rename_i cs' t2 fr h2
    refine ⟨t2, fr, ?_⟩
    rw [h2]
    obtain rfl := Option.some.inj hvar
    have h3 : cs' = (((zs.map fun z => (⟨z.toArray⟩ : ByteArray)).map Value.string)).toArray := by
     apply Array.toList_inj.1
     rw [h1, List.map_map]
     rfl
    rw [h3]
   ·cases hvar
  ·exact ih h.tail hin
theorem tabIs_of_laid {P : Program} {W : World} {name : String} {k : IntKind} {zs : List Int} {l : List (String × DataW Unit)} {g : Nat} {t e : TypeId} {n : Nat}
  (hg : P.globalNamed name = some g) (hty : (P.globals[g]?).map (·.type) = some t) (ht : P.underlying t = some (.array n e)) (he : P.underlying e = some (.int k)) (hce : P.cellsOf e = 1) (hct : P.cellsOf t = n)
  (h : laidMet P l W) (hin : (name, Lib.tabData k zs) ∈ l) : Lib.TabIs P W name k zs := by
 induction l with
 | nil => simp at hin
 | cons x r ih =>
  rcases List.mem_cons.1 hin with rfl | hin
  ·exact Lib.tabIs_of_head hg hty ht he hce hct h
  ·exact ih h.tail hin
theorem StrsAt.cell {w : World} {g : Nat} {xs : List ByteArray} (h : StrsAt w g xs) (i : Nat) : w.cell? ⟨g, i, none⟩ = (xs.map Value.string)[i]? := by
 obtain ⟨t, fr, h⟩ := h
 simp [World.cell?, h]
theorem StrsAt.lt {w : World} {g : Nat} {xs : List ByteArray} (h : StrsAt w g xs) : g < w.heap.size := by
 obtain ⟨t, fr, h⟩ := h
 exact (Array.getElem?_eq_some_iff.1 h).1
theorem StrsAt.below {w W : World} {g : Nat} {xs : List ByteArray} (h : StrsAt w g xs) (hb : Below w.heap.size w W) : StrsAt W g xs := by
 have hl := h.lt
 obtain ⟨t, fr, h⟩ := h
 exact ⟨t, fr, (hb.block g hl).trans h⟩
theorem tabIs_below {P : Program} {w W : World} {name : String} {k : IntKind} {zs : List Int} (h : Lib.TabIs P w name k zs) (hb : Below w.heap.size w W) : Lib.TabIs P W name k zs := by
 unfold Lib.TabIs World.var? at h ⊢
 obtain ⟨g, hg, h1⟩ := Option.bind_eq_some_iff.1 h
 rw [hg, Option.bind_some]
 have hl : g < w.heap.size := by
  rcases Nat.lt_or_ge g w.heap.size with h2 | h2
  ·exact h2
  ·rw [Array.getElem?_eq_none h2] at h1
   simp at h1
 rw [hb.block g hl]
 exact h1
def tDays : List ByteArray := [⟨#[115, 117, 110, 100, 97, 121]⟩, ⟨#[109, 111, 110, 100, 97, 121]⟩, ⟨#[116, 117, 101, 115, 100, 97, 121]⟩, ⟨#[119, 101, 100, 110, 101, 115, 100, 97, 121]⟩, ⟨#[116, 104, 117, 114, 115, 100, 97, 121]⟩, ⟨#[102, 114, 105, 100, 97, 121]⟩, ⟨#[115, 97, 116, 117, 114, 100, 97, 121]⟩]
def tKinds : List ByteArray := [⟨#[116, 101, 109, 112, 111, 114, 97, 108]⟩, ⟨#[112, 114, 111, 112, 101, 114]⟩, ⟨#[109, 111, 118, 101, 100]⟩]
structure Tabs (w : World) : Prop where
 days : StrsAt w 1 tDays
 kinds : StrsAt w 0 tKinds
 tens : Lib.TabIs Tryd.prog w "internal/strconv.uint64pow10" .u64 Lib.pow10Tab
theorem Tabs.below {w W : World} (h : Tabs w) (hb : Below w.heap.size w W) : Tabs W := ⟨h.days.below hb, h.kinds.below hb, tabIs_below h.tens hb⟩
theorem tabs_of_laid {W : World} {l : List (String × DataW Unit)} (h : laidMetH Tryd.prog l W) (hp : (l.all fun x => x.2.handleName?.isNone) = true)
  (h1 : ("computus/weekday.names", strData (tDays.map (·.data.toList))) ∈ l) (h2 : ("computus/ordotext.kinds", strData (tKinds.map (·.data.toList))) ∈ l) (h3 : ("internal/strconv.uint64pow10", Lib.tabData .u64 Lib.pow10Tab) ∈ l) : Tabs W := by
 have hf : l.filter (fun x => x.2.handleName?.isSome) = [] := by
  rw [List.filter_eq_nil_iff]
  intro x hx
  have := List.all_eq_true.1 hp x hx
  simpa using this
 have h : laidMet Tryd.prog l W := by
  unfold laidMetH at h
  rw [hf] at h
  exact h
 exact ⟨strsAt_of_laid (g := 1) (t := 105) (e := 9) (n := 7) (by kernel_rfl) (by kernel_rfl) (by kernel_rfl) (by kernel_rfl) (by kernel_rfl) (by kernel_rfl) h h1, strsAt_of_laid (g := 0) (t := 73) (e := 9) (n := 3) (by kernel_rfl) (by kernel_rfl) (by kernel_rfl) (by kernel_rfl) (by kernel_rfl) (by kernel_rfl) h h2, tabIs_of_laid (g := 3) (t := 126) (e := 119) (n := 20) (by kernel_rfl) (by kernel_rfl) (by kernel_rfl) (by kernel_rfl) (by kernel_rfl) (by kernel_rfl) h h3⟩
end Go.Proofs.YtlchefonlfokgaaDoor.Q
end
section

end
section
namespace Go.Proofs.YtlchefonlfokgaaDoor.Q
open Go.RowKit Go.Proofs.YtlchefonlfokgaaDoorW.PrintWords Go.Proofs.YtlchefonlfokgaaDoorW.PrintLast Go.Proofs.YtlchefonlfokgaaDoorW.PrintMore
set_option maxRecDepth 100000
abbrev Sc := Nat × Bool
def scW (s : ByteArray) (l : List ByteArray) (x : Sc) : Int × Sc :=
 if x.2 = true then (-1, x) else (if (scWord s x.1 l).1 then (scWord s x.1 l).2.2 else -1, (scWord s x.1 l).2.1, !(scWord s x.1 l).1)
def scN (s : ByteArray) (x : Sc) : Int × Sc :=
 if x.2 = true then (0, x) else (if (scNum s x.1).1 then (scNum s x.1).2.2 else 0, (scNum s x.1).2.1, !(scNum s x.1).1)
def scI (s : ByteArray) (x : Sc) : ByteArray × Sc :=
 if x.2 = true then (⟨#[]⟩, x) else (if (scIdent s x.1).1 then s.extract x.1 (scIdent s x.1).2 else ⟨#[]⟩, (scIdent s x.1).2, !(scIdent s x.1).1)
def scE (s : ByteArray) (x : Sc) : Sc := if x.2 = true then x else (x.1, !decide (s.size ≤ x.1))
theorem scTake_le {s : ByteArray} {i : Nat} {p : Int → Bool} (h : scTake s i p = true) : i + 1 ≤ s.size := scTake_lt h
theorem scWordLoop_le {s : ByteArray} {F : Nat} {l : List ByteArray} : ∀ (k j : Nat), j ≤ s.size → (scWordLoop s F l k j).2.1 ≤ s.size
 | 0, j, h => h
 | k + 1, j, h => by
  rw [scWordLoop]
  split
  ·rename_i ht
   split
   ·exact scWordLoop_le k (j + 1) (scTake_le ht)
   ·exact scTake_le ht
  ·exact h
theorem scW_le {s : ByteArray} {l : List ByteArray} {x : Sc} (h : x.1 ≤ s.size) : (scW s l x).2.1 ≤ s.size := by
 unfold scW
 split
 ·exact h
 ·exact scWordLoop_le _ _ h
theorem scNum_le {s : ByteArray} {i : Nat} (h : i ≤ s.size) : (scNum s i).2.1 ≤ s.size := by
 unfold scNum
 split
 ·rename_i h1; exact scTake_le h1
 ·split
  ·rename_i h1
   split
   ·rename_i h2; exact (scRun_spec pDigit s 9 (i + 1 + 1) (scTake_le h2)).2.1
   ·exact scTake_le h1
  ·split
   ·rename_i h2; exact (scRun_spec pDigit s 9 (i + 1) (scTake_le h2)).2.1
   ·exact h
theorem scN_le {s : ByteArray} {x : Sc} (h : x.1 ≤ s.size) : (scN s x).2.1 ≤ s.size := by
 unfold scN
 split
 ·exact h
 ·exact scNum_le h
theorem scI_le {s : ByteArray} {x : Sc} (h : x.1 ≤ s.size) : (scI s x).2.1 ≤ s.size := by
 unfold scI
 split
 ·exact h
 ·exact (scIdent_spec s x.1 h).2
theorem scE_le {s : ByteArray} {x : Sc} (h : x.1 ≤ s.size) : (scE s x).1 ≤ s.size := by
 unfold scE
 split <;> exact h
structure SP (w0 W : World) (g : Nat) (s : ByteArray) (x : Sc) : Prop where
 I : IsS77 w0 W g s (x.1 : Int) x.2
 B : Below w0.heap.size w0 W
 L : x.1 ≤ s.size
 Z : s.size ≤ 4611686018427387904
section
variable {w0 W : World} {g : Nat} {s : ByteArray} {x : Sc}
theorem SP.alloc (h : SP w0 W g s x) (o : Obj) : SP w0 (W.alloc o) g s x := ⟨h.I.alloc o, h.B.alloc h.B.size o, h.L, h.Z⟩
theorem SP.drewN (h : SP w0 W g s x) (n : Nat) : SP w0 (W.drewN n) g s x := ⟨h.I.drewN n, pw_below_drewN h.B n, h.L, h.Z⟩
theorem SP.drew (h : SP w0 W g s x) : SP w0 W.drew g s x := ⟨h.I.drew, below_drew h.B, h.L, h.Z⟩
theorem SP.far (h : SP w0 W g s x) {p : Addr} (hp : g ≠ p.block) (h0 : w0.heap.size ≤ p.block) (u : Value) : SP w0 (W.setCell p u) g s x := ⟨h.I.far hp u, h.B.setCell h0 u, h.L, h.Z⟩
theorem SP.below {W1 : World} (h : SP w0 W g s x) (hb : Below W.heap.size W W1) : SP w0 W1 g s x := ⟨h.I.below hb, below_then h.B h.B.size hb, h.L, h.Z⟩
theorem SP.lt (h : SP w0 W g s x) : g < W.heap.size := h.I.lt
theorem SP.new (w0 W : World) (s : ByteArray) (hB : Below w0.heap.size w0 W) (hs : s.size ≤ 4611686018427387904) : SP w0 (W.alloc (.cells #[.string s, .int .i64 0, .bool false] 77)) W.heap.size s (0, false) :=
 ⟨IsS77.new w0 W s 0 false hB, hB.alloc hB.size _, Nat.zero_le _, hs⟩
theorem SP.word {A1 : Option Addr} {c1 n : Nat} {l1 : List ByteArray} (h : SP w0 W g s x) (hn : l1.length = n) (hr1 : Kd.string.C W A1 l1.length l1) (hf1 : ∀ ad, A1 = some ad → 0 < l1.length → ad.block ≠ g) :
  Calls Tryd.prog 20 #[.pointer (some ⟨g, 0, none⟩), .slice A1 n c1] W fun e w' => e = .returned (.int .i64 (scW s l1 x).1) ∧ SP w0 w' g s (scW s l1 x).2 ∧ KeepBut W w' g none := by
 subst hn
 obtain ⟨i, bad⟩ := x
 have hle := scW_le (l := l1) h.L
 cases bad with
 | true => exact (word_bad w0 W g s (i : Int) A1 c1 l1 h.I h.B).mono fun e w' ⟨he, hI, hB, hK⟩ => ⟨he, ⟨hI, hB, h.L, h.Z⟩, hK⟩
 | false => exact (word_any w0 W g s i A1 c1 l1 h.I h.B h.Z h.L hr1 hf1).mono fun e w' ⟨he, hI, hB, hK⟩ => ⟨he, ⟨hI, hB, hle, h.Z⟩, hK⟩
theorem SP.words {l1 : List ByteArray} {cs : Array Value} {n : Nat} (h : SP w0 W g s x) (hn : l1.length = n) (hl : n ≤ 9223372036854775807) (hcs : (l1.map Value.string).toArray = cs) :
  Calls Tryd.prog 20 #[.pointer (some ⟨g, 0, none⟩), .slice (some ⟨W.heap.size, 0, none⟩) n n] (W.alloc (.cells cs 9)) fun e w' => e = .returned (.int .i64 (scW s l1 x).1) ∧ SP w0 w' g s (scW s l1 x).2 ∧ KeepBut W w' g none := by
 subst hcs
 refine ((h.alloc _).word hn (strings_C (blk_new W _) (by omega) (fun j hj => by simp [List.getElem?_eq_getElem hj, List.getD])) (fun ad e _ => by have h1 := h.lt; obtain rfl := Option.some.inj e; exact Nat.ne_of_gt h1)).mono fun e w' ⟨he, hI, hK⟩ => ⟨he, hI, ?_⟩
 exact (keep_alloc (KeepBut.refl W g none) _).trans hK (.inl rfl)
theorem SP.words' {l1 : List ByteArray} {cs : Array Value} {n b : Nat} (h : SP w0 W g s x) (hz : W.heap.size = b) (hn : l1.length = n) (hl : n ≤ 9223372036854775807) (hcs : (l1.map Value.string).toArray = cs) :
  Calls Tryd.prog 20 #[.pointer (some ⟨g, 0, none⟩), .slice (some ⟨b, 0, none⟩) n n] (W.alloc (.cells cs 9)) fun e w' => e = .returned (.int .i64 (scW s l1 x).1) ∧ SP w0 w' g s (scW s l1 x).2 ∧ KeepBut W w' g none := by
 subst hz
 exact h.words hn hl hcs
theorem SP.number (h : SP w0 W g s x) :
  Calls Tryd.prog 47 #[.pointer (some ⟨g, 0, none⟩)] W fun e w' => e = .returned (.int .i64 (scN s x).1) ∧ SP w0 w' g s (scN s x).2 ∧ KeepBut W w' g none := by
 obtain ⟨i, bad⟩ := x
 have hle := scN_le h.L
 cases bad with
 | true => exact (number_bad w0 W g s (i : Int) h.I h.B).mono fun e w' ⟨he, hI, hB, hK⟩ => ⟨he, ⟨hI, hB, h.L, h.Z⟩, hK⟩
 | false => exact (number_ok w0 W g s i h.I h.B h.Z).mono fun e w' ⟨he, hI, hB, hK⟩ => ⟨he, ⟨hI, hB, hle, h.Z⟩, hK⟩
theorem SP.ident (h : SP w0 W g s x) :
  Calls Tryd.prog 81 #[.pointer (some ⟨g, 0, none⟩)] W fun e w' => e = .returned (.string (scI s x).1) ∧ SP w0 w' g s (scI s x).2 ∧ KeepBut W w' g none := by
 obtain ⟨i, bad⟩ := x
 have hle := scI_le h.L
 cases bad with
 | true => exact (ident_bad w0 W g s (i : Int) h.I h.B).mono fun e w' ⟨he, hI, hB, hK⟩ => ⟨he, ⟨hI, hB, h.L, h.Z⟩, hK⟩
 | false => exact (ident_ok w0 W g s i h.I h.B h.Z h.L).mono fun e w' ⟨he, hI, hB, hK⟩ => ⟨he, ⟨hI, hB, hle, h.Z⟩, hK⟩
theorem SP.end_ (h : SP w0 W g s x) :
  Calls Tryd.prog 23 #[.pointer (some ⟨g, 0, none⟩)] W fun e w' => e = .returned (.tuple #[]) ∧ SP w0 w' g s (scE s x) ∧ KeepBut W w' g none := by
 obtain ⟨i, bad⟩ := x
 have hle := scE_le h.L
 cases bad with
 | true => exact (end_bad w0 W g s (i : Int) h.I h.B).mono fun e w' ⟨he, hI, hB, hK⟩ => ⟨he, ⟨hI, hB, h.L, h.Z⟩, hK⟩
 | false => exact (end_any w0 W g s i h.I h.B).mono fun e w' ⟨he, hI, hB, hK⟩ => ⟨he, ⟨hI, hB, hle, h.Z⟩, hK⟩
theorem SP.err (h : SP w0 W g s x) :
  Calls Tryd.prog 24 #[.pointer (some ⟨g, 0, none⟩)] W fun e w' => e = .returned (.int .i64 (if x.2 then 6 else 0)) ∧ w' = W := err_any W g x.2 (cellS77_2 h.I.1)
theorem SP.offset (h : SP w0 W g s x) :
  Calls Tryd.prog 25 #[.pointer (some ⟨g, 0, none⟩)] W fun e w' => e = .returned (.int .i64 x.1) ∧ w' = W := offset_any W g x.1 (cellS77_1 h.I.1)
end
theorem keepBut_then {w w1 w2 : World} {g : Nat} (h : KeepBut w w1 g none) (k : KeepBut w1 w2 g none) : KeepBut w w2 g none := h.trans k (.inl rfl)
structure PF (w0 w W : World) (g : Nat) (s : ByteArray) (x : Sc) (bs : List (Nat × Obj)) : Prop where
 S : SP w0 W g s x
 K : KeepBut w W g none
 H : ∀ q ∈ bs, W.heap[q.1]? = some q.2
 N : ∀ q ∈ bs, q.1 ≠ g ∧ w.heap.size ≤ q.1
section
variable {w0 w W : World} {g : Nat} {s : ByteArray} {x : Sc} {bs : List (Nat × Obj)}
theorem PF.start (h : SP w0 w g s x) : PF w0 w w g s x [] := ⟨h, KeepBut.refl _ _ _, fun q hq => by simp at hq, fun q hq => by simp at hq⟩
theorem PF.drew (h : PF w0 w W g s x bs) : PF w0 w W.drew g s x bs := ⟨h.S.drew, keep_drew h.K, h.H, h.N⟩
theorem PF.drewN (h : PF w0 w W g s x bs) (n : Nat) : PF w0 w (W.drewN n) g s x bs := ⟨h.S.drewN n, keep_drewN h.K n, h.H, h.N⟩
theorem PF.alloc (h : PF w0 w W g s x bs) (o : Obj) : PF w0 w (W.alloc o) g s x bs := ⟨h.S.alloc o, keep_alloc h.K o, fun q hq => blk_alloc (h.H q hq) o, h.N⟩
theorem PF.make {b : Nat} (h : PF w0 w W g s x bs) (hb : W.heap.size = b) (o : Obj) : PF w0 w (W.alloc o) g s x (bs ++ [(b, o)]) := by
 subst hb
 refine ⟨h.S.alloc o, keep_alloc h.K o, fun q hq => ?_, fun q hq => ?_⟩
 ·rcases List.mem_append.1 hq with hq | hq
  ·exact blk_alloc (h.H q hq) o
  ·obtain rfl := List.mem_singleton.1 hq
   exact blk_new W o
 ·rcases List.mem_append.1 hq with hq | hq
  ·exact h.N q hq
  ·obtain rfl := List.mem_singleton.1 hq
   exact ⟨Nat.ne_of_gt h.S.lt, h.K.1⟩
theorem PF.turn {W' : World} {x' : Sc} (h : PF w0 w W g s x bs) (hS : SP w0 W' g s x') (hK : KeepBut W W' g none) : PF w0 w W' g s x' bs := ⟨hS, keepBut_then h.K hK, fun q hq => hK.blk (h.H q hq) (h.N q hq).1 (by simp), h.N⟩
theorem PF.has {b : Nat} {o : Obj} (h : PF w0 w W g s x bs) (hb : (b, o) ∈ bs) : W.heap[b]? = some o := h.H (b, o) hb
theorem PF.cell {b : Nat} {cs : Array Value} {t : TypeId} {v : Value} {i : Nat} (h : PF w0 w W g s x bs) (hb : (b, .cells cs t) ∈ bs) (hv : cs[i]? = some v) : W.cell? ⟨b, i, none⟩ = some v := (blk_cell (h.has hb) i).trans hv
theorem PF.put {W' : World} {b : Nat} {o : Obj} {bs' : List (Nat × Obj)} (h : PF w0 w W g s x bs) (hb : b ≠ g ∧ w.heap.size ≤ b) (h0 : w0.heap.size ≤ w.heap.size) (hz : W'.heap.size = W.heap.size) (ho : W'.heap[b]? = some o) (hr : ∀ k, k ≠ b → W'.heap[k]? = W.heap[k]?) (hw : Below w0.heap.size w0 W') (hs : ∀ q ∈ bs', q = (b, o) ∨ (q.1 ≠ b ∧ q ∈ bs)) : PF w0 w W' g s x bs' := by
 refine ⟨⟨⟨(hr g (fun e => hb.1 e.symm)).trans h.S.I.1, h.S.I.2⟩, hw, h.S.L, h.S.Z⟩, ⟨by rw [hz]; exact h.K.1, fun i hi hg hrow => (hr i (by omega)).trans (h.K.2 i hi hg hrow)⟩, fun q hq => ?_, fun q hq => ?_⟩
 ·rcases hs q hq with rfl | ⟨h1, h2⟩
  ·exact ho
  ·exact (hr q.1 h1).trans (h.H q h2)
 ·rcases hs q hq with rfl | ⟨h1, h2⟩
  ·exact hb
  ·exact h.N q h2
theorem PF.below {W' : World} (h : PF w0 w W g s x bs) (hb : Below W.heap.size W W') : PF w0 w W' g s x bs := h.turn (h.S.below hb) (KeepBut.of_below hb _ _)
theorem PF.set1 {b i : Nat} {cs : Array Value} {t : TypeId} {v : Value} {bs' : List (Nat × Obj)} (h : PF w0 w W g s x bs) (h0 : w0.heap.size ≤ w.heap.size) (hb : (b, .cells cs t) ∈ bs) (hs : ∀ q ∈ bs', q = (b, .cells (cs.setIfInBounds i v) t) ∨ (q.1 ≠ b ∧ q ∈ bs)) : PF w0 w (W.setCell ⟨b, i, none⟩ v) g s x bs' :=
 h.put (h.N _ hb) h0 (by simp [World.setCell]) (blk_set (h.has hb) i v) (fun k hk => Below.heap_setCell W ⟨b, i, none⟩ v k hk) (below_set h.S.B (Nat.le_trans h0 (h.N _ hb).2)) hs
theorem PF.words {l1 : List ByteArray} {cs : Array Value} {n b : Nat} (h : PF w0 w W g s x bs) (hz : W.heap.size = b) (hn : l1.length = n) (hl : n ≤ 9223372036854775807) (hcs : (l1.map Value.string).toArray = cs) :
  Calls Tryd.prog 20 #[.pointer (some ⟨g, 0, none⟩), .slice (some ⟨b, 0, none⟩) n n] (W.alloc (.cells cs 9)) fun e w' => e = .returned (.int .i64 (scW s l1 x).1) ∧ PF w0 w w' g s (scW s l1 x).2 bs :=
 (h.S.words' hz hn hl hcs).mono fun e w' ⟨he, hS, hK⟩ => ⟨he, h.turn hS hK⟩
end
end Go.Proofs.YtlchefonlfokgaaDoor.Q
end
section
namespace Go.Proofs.YtlchefonlfokgaaDoor.Q
open Go.RowKit Go.Proofs.YtlchefonlfokgaaDoorW.PrintWords Go.Proofs.YtlchefonlfokgaaDoorW.PrintLast Go.Proofs.YtlchefonlfokgaaDoorW.PrintMore
set_option maxRecDepth 100000
theorem scWordLoop_spec {s : ByteArray} {F : Nat} {l : List ByteArray} : ∀ (k j : Nat), j ≤ (scWordLoop s F l k j).2.1 ∧ ((scWordLoop s F l k j).1 = true → j < (scWordLoop s F l k j).2.1 ∧ 0 ≤ (scWordLoop s F l k j).2.2 ∧ (scWordLoop s F l k j).2.2 < (l.length : Int))
 | 0, j => ⟨Nat.le_refl _, fun h => by simp [scWordLoop] at h⟩
 | k + 1, j => by
  rw [scWordLoop]
  split
  ·split
   ·have h := scWordLoop_spec (s := s) (F := F) (l := l) k (j + 1)
    exact ⟨by omega, fun h2 => by have := h.2 h2; omega⟩
   ·rename_i h1
    refine ⟨by simp, fun _ => ⟨by simp, by simp only; omega, ?_⟩⟩
    show scFind (s.extract F (j + 1)) l 0 (-1) < (l.length : Int)
    rcases scFind_spec (s.extract F (j + 1)) l 0 (-1) with ⟨i, hi, _, h4⟩ | ⟨_, h4⟩
    ·rw [h4]; omega
    ·exact absurd h1 (by rw [h4]; decide)
  ·exact ⟨Nat.le_refl _, fun h => by simp at h⟩
theorem scW_ge (s : ByteArray) (l : List ByteArray) (x : Sc) : x.1 ≤ (scW s l x).2.1 := by
 unfold scW
 split
 ·exact Nat.le_refl _
 ·exact (scWordLoop_spec _ _).1
theorem scW_cases (s : ByteArray) (l : List ByteArray) (x : Sc) : ((scW s l x).2.2 = true ∧ (scW s l x).1 = -1) ∨ (x.2 = false ∧ (scW s l x).2.2 = false ∧ x.1 < (scW s l x).2.1 ∧ 0 ≤ (scW s l x).1 ∧ (scW s l x).1 < (l.length : Int)) := by
 unfold scW
 by_cases hx : x.2 = true
 ·rw [if_pos hx]; exact .inl ⟨hx, rfl⟩
 ·rw [if_neg hx]
  cases hb : (scWord s x.1 l).1 with
  | false => exact .inl ⟨rfl, rfl⟩
  | true =>
   have h := (scWordLoop_spec (s := s) (F := x.1) (l := l) (s.size + 2) x.1).2 hb
   exact .inr ⟨by simpa using hx, rfl, h.1, h.2.1, h.2.2⟩
theorem scRun_ge (p : Int → Bool) (s : ByteArray) : ∀ (k j : Nat), j ≤ scRun p s k j
 | 0, j => Nat.le_refl _
 | k + 1, j => by
  rw [scRun]
  split
  ·have := scRun_ge p s k (j + 1); omega
  ·exact Nat.le_refl _
theorem scNum_ge (s : ByteArray) (i : Nat) : i ≤ (scNum s i).2.1 := by
 unfold scNum
 split
 ·simp
 ·split
  ·split
   ·have := scRun_ge pDigit s 9 (i + 1 + 1); simp only; omega
   ·simp
  ·split
   ·have := scRun_ge pDigit s 9 (i + 1); simp only; omega
   ·exact Nat.le_refl _
theorem scN_ge (s : ByteArray) (x : Sc) : x.1 ≤ (scN s x).2.1 := by
 unfold scN
 split
 ·exact Nat.le_refl _
 ·exact scNum_ge _ _
theorem scIdLoop_ge (s : ByteArray) (i : Nat) : ∀ (k j : Nat), j ≤ (scIdLoop s i k j).2
 | 0, j => Nat.le_refl _
 | k + 1, j => by
  rw [scIdLoop]
  split
  ·split
   ·have := scIdLoop_ge s i k (j + 1); omega
   ·split
    ·split
     ·have := scIdLoop_ge s i k (j + 2); omega
     ·simp
    ·exact Nat.le_refl _
  ·exact Nat.le_refl _
theorem scI_ge (s : ByteArray) (x : Sc) : x.1 ≤ (scI s x).2.1 := by
 unfold scI
 split
 ·exact Nat.le_refl _
 ·show x.1 ≤ (scIdent s x.1).2
  unfold scIdent
  split
  ·have := scIdLoop_ge s x.1 39 (x.1 + 1); omega
  ·exact Nat.le_refl _
end Go.Proofs.YtlchefonlfokgaaDoor.Q
end
section
namespace Go.Proofs.YtlchefonlfokgaaDoor.Q
open Go.RowKit Go.Proofs.YtlchefonlfokgaaDoorW.PrintWords Go.Proofs.YtlchefonlfokgaaDoorW.PrintLast Go.Proofs.YtlchefonlfokgaaDoorW.PrintMore
set_option maxRecDepth 100000
def wSp : List ByteArray := [⟨#[32]⟩]
def wNl : List ByteArray := [⟨#[10]⟩]
def pcN (s : ByteArray) (x : Sc) : Int × Sc := scN s (scW s wSp x).2
def pcI (s : ByteArray) (x : Sc) : ByteArray × Sc := scI s (scW s wSp x).2
def pcC (s : ByteArray) (l : List ByteArray) (x : Sc) : Int × Sc := scW s l (scW s wSp x).2
abbrev pBox (g : Nat) (y : Int) : Obj := .cells #[.pointer (some ⟨g, 0, none⟩), .int .i64 y] 48 (0, 0)
theorem p_number (w0 w : World) (g gp : Nat) (y : Int) (s : ByteArray) (x : Sc) (h : SP w0 w g s x) (hp : w.heap[gp]? = some (pBox g y)) :
  Calls Tryd.prog 21 #[.pointer (some ⟨gp, 0, none⟩)] w fun e w' => e = .returned (.int .i64 (pcN s x).1) ∧ SP w0 w' g s (pcN s x).2 ∧ KeepBut w w' g none := by
 have HS := Aside0.mk h
 have hne : gp ≠ g := (h.I.ne_blk hp (by decide)).symm
 have hc0 : w.cell? ⟨gp, 0, none⟩ = some (.pointer (some ⟨g, 0, none⟩)) := blk_cell hp 0
 clear h hp
 go_enter Tryd.func21, Tryd.ntmps21
 go_wp2_with fail
 refine Calls.mono (HS.out.words' (b := w.heap.size) (l1 := wSp) (n := 1) rfl rfl (by decide) rfl) ?_
 rintro e w1 ⟨rfl, hS, hK⟩
 have hc := keep_cell hK hc0 hne
 have HS1 := Aside0.mk hS
 have HK1 := Aside0.mk hK
 clear HS hS hK hc0
 go_wp2_with fail
 refine Calls.mono (HS1.out.number) ?_
 rintro e w2 ⟨rfl, hS, hK⟩
 have HS2 := Aside0.mk hS
 have HK2 := Aside0.mk (keepBut_then HK1.out hK)
 clear HS1 HK1 hS hK hc
 go_wp2_with fail
 go_ret
 exact ⟨rfl, HS2.out, HK2.out⟩
theorem p_identifier (w0 w : World) (g gp : Nat) (y : Int) (s : ByteArray) (x : Sc) (h : SP w0 w g s x) (hp : w.heap[gp]? = some (pBox g y)) :
  Calls Tryd.prog 54 #[.pointer (some ⟨gp, 0, none⟩)] w fun e w' => e = .returned (.string (pcI s x).1) ∧ SP w0 w' g s (pcI s x).2 ∧ KeepBut w w' g none := by
 have HS := Aside0.mk h
 have hne : gp ≠ g := (h.I.ne_blk hp (by decide)).symm
 have hc0 : w.cell? ⟨gp, 0, none⟩ = some (.pointer (some ⟨g, 0, none⟩)) := blk_cell hp 0
 clear h hp
 go_enter Tryd.func54, Tryd.ntmps54
 go_wp2_with fail
 refine Calls.mono (HS.out.words' (b := w.heap.size) (l1 := wSp) (n := 1) rfl rfl (by decide) rfl) ?_
 rintro e w1 ⟨rfl, hS, hK⟩
 have hc := keep_cell hK hc0 hne
 have HS1 := Aside0.mk hS
 have HK1 := Aside0.mk hK
 clear HS hS hK hc0
 go_wp2_with fail
 refine Calls.mono (HS1.out.ident) ?_
 rintro e w2 ⟨rfl, hS, hK⟩
 have HS2 := Aside0.mk hS
 have HK2 := Aside0.mk (keepBut_then HK1.out hK)
 clear HS1 HK1 hS hK hc
 go_wp2_with fail
 go_ret
 exact ⟨rfl, HS2.out, HK2.out⟩
theorem p_choice (w0 w : World) (g gp : Nat) (y : Int) (s : ByteArray) (x : Sc) (h : SP w0 w g s x) (hp : w.heap[gp]? = some (pBox g y)) (A1 : Option Addr) (c1 n : Nat) (l1 : List ByteArray) (hn : l1.length = n) (hr1 : ∀ W', KeepBut w W' g none → Kd.string.C W' A1 l1.length l1) (hf1 : ∀ ad, A1 = some ad → 0 < l1.length → ad.block ≠ g) :
  Calls Tryd.prog 51 #[.pointer (some ⟨gp, 0, none⟩), .slice A1 n c1] w fun e w' => e = .returned (.int .i64 (pcC s l1 x).1) ∧ SP w0 w' g s (pcC s l1 x).2 ∧ KeepBut w w' g none := by
 have HS := Aside0.mk h
 have HR := Aside0.mk hr1
 clear hr1
 have hne : gp ≠ g := (h.I.ne_blk hp (by decide)).symm
 have hc0 : w.cell? ⟨gp, 0, none⟩ = some (.pointer (some ⟨g, 0, none⟩)) := blk_cell hp 0
 clear h hp
 go_enter Tryd.func51, Tryd.ntmps51
 go_wp2_with fail
 refine Calls.mono (HS.out.words' (b := w.heap.size) (l1 := wSp) (n := 1) rfl rfl (by decide) rfl) ?_
 rintro e w1 ⟨rfl, hS, hK⟩
 have hc := keep_cell hK hc0 hne
 have HS1 := Aside0.mk hS
 have HK1 := Aside0.mk hK
 clear HS hS hK hc0
 go_wp2_with fail
 refine Calls.mono (HS1.out.word hn (HR.out _ HK1.out) hf1) ?_
 rintro e w2 ⟨rfl, hS, hK⟩
 have HS2 := Aside0.mk hS
 have HK2 := Aside0.mk (keepBut_then HK1.out hK)
 clear HS1 HK1 hS hK hc
 go_wp2_with fail
 go_ret
 exact ⟨rfl, HS2.out, HK2.out⟩
theorem tri {W : World} {b : Nat} {t : TypeId} {a0 a1 a2 : Value} (h : W.heap[b]? = some (.cells #[a0, a1, a2] t (0, 0))) :
  (W.cell? ⟨b, 0, none⟩ = some a0 ∧ W.cell? ⟨b, 1, none⟩ = some a1 ∧ W.cell? ⟨b, 2, none⟩ = some a2) ∧ (W.frozen? ⟨b, 0, none⟩ = false ∧ W.frozen? ⟨b, 1, none⟩ = false ∧ W.frozen? ⟨b, 2, none⟩ = false) :=
 ⟨⟨blk_cell h 0, blk_cell h 1, blk_cell h 2⟩, ⟨blk_frozen h 0, blk_frozen h 1, blk_frozen h 2⟩⟩
def set3 (W : World) (b i : Nat) (a0 a1 a2 : Value) : World := ((W.setCell ⟨b, i, none⟩ a0).setCell ⟨b, i + 1, none⟩ a1).setCell ⟨b, i + 2, none⟩ a2
theorem set3_size (W : World) (b i : Nat) (a0 a1 a2 : Value) : (set3 W b i a0 a1 a2).heap.size = W.heap.size := by simp [set3, World.setCell]
theorem set3_far (W : World) (b i : Nat) (a0 a1 a2 : Value) (k : Nat) (hk : k ≠ b) : (set3 W b i a0 a1 a2).heap[k]? = W.heap[k]? := by
 unfold set3
 rw [Below.heap_setCell _ _ _ _ hk, Below.heap_setCell _ _ _ _ hk, Below.heap_setCell _ _ _ _ hk]
theorem set3_cell {W : World} {b k i j : Nat} {v : Value} (a0 a1 a2 : Value) (h : W.cell? ⟨k, j, none⟩ = some v) (hk : k ≠ b) : (((W.setCell ⟨b, i, none⟩ a0).setCell ⟨b, i + 1, none⟩ a1).setCell ⟨b, i + 2, none⟩ a2).cell? ⟨k, j, none⟩ = some v :=
 (show (set3 W b i a0 a1 a2).cell? ⟨k, j, none⟩ = some v from (World.cell?_of_block (w := W) (w' := set3 W b i a0 a1 a2) (a := ⟨k, j, none⟩) (set3_far W b i a0 a1 a2 k hk)).trans h)
theorem set3_blk {W : World} {b i : Nat} {t : TypeId} {cs : Array Value} (h : W.heap[b]? = some (.cells cs t (0, 0))) (a0 a1 a2 : Value) : (set3 W b i a0 a1 a2).heap[b]? = some (.cells (((cs.setIfInBounds i a0).setIfInBounds (i + 1) a1).setIfInBounds (i + 2) a2) t (0, 0)) :=
 blk_set (blk_set (blk_set h i a0) (i + 1) a1) (i + 2) a2
theorem set3_below {w0 W : World} {b i : Nat} (h : Below w0.heap.size w0 W) (hb : w0.heap.size ≤ b) (a0 a1 a2 : Value) : Below w0.heap.size w0 (set3 W b i a0 a1 a2) := below_set (below_set (below_set h hb) hb) hb
theorem PF.set3 {w0 w W : World} {g : Nat} {s : ByteArray} {x : Sc} {bs bs' : List (Nat × Obj)} {b i : Nat} {t : TypeId} {cs cs' : Array Value} (h : PF w0 w W g s x bs) (h0 : w0.heap.size ≤ w.heap.size) (hb : (b, .cells cs t) ∈ bs) (a0 a1 a2 : Value) (hc : ((cs.setIfInBounds i a0).setIfInBounds (i + 1) a1).setIfInBounds (i + 2) a2 = cs') (hs : ∀ q ∈ bs', q = (b, .cells cs' t) ∨ (q.1 ≠ b ∧ q ∈ bs)) :
  PF w0 w (((W.setCell ⟨b, i, none⟩ a0).setCell ⟨b, i + 1, none⟩ a1).setCell ⟨b, i + 2, none⟩ a2) g s x bs' :=
 show PF w0 w (Q.set3 W b i a0 a1 a2) g s x bs' from h.put (h.N _ hb) h0 (set3_size _ _ _ _ _ _) ((set3_blk (h.has hb) _ _ _).trans (by rw [hc])) (fun k hk => set3_far _ _ _ _ _ _ k hk) (set3_below h.S.B (Nat.le_trans h0 (h.N _ hb).2) _ _ _) hs
def PBx (w : World) (g gp : Nat) (y : Int) : Prop := w.heap[gp]? = some (pBox g y) ∧ gp ≠ g
section
variable {w0 w W : World} {g gp : Nat} {y : Int} {s : ByteArray} {x : Sc} {bs : List (Nat × Obj)}
theorem PF.pblk (h : PF w0 w W g s x bs) (hp : PBx w g gp y) : W.heap[gp]? = some (pBox g y) := h.K.blk hp.1 hp.2 (by simp)
theorem PF.c0 (h : PF w0 w W g s x bs) (hp : PBx w g gp y) : W.cell? ⟨gp, 0, none⟩ = some (.pointer (some ⟨g, 0, none⟩)) := blk_cell (h.pblk hp) 0
theorem PF.c1 (h : PF w0 w W g s x bs) (hp : PBx w g gp y) : W.cell? ⟨gp, 1, none⟩ = some (.int .i64 y) := blk_cell (h.pblk hp) 1
theorem PF.pb (h : PF w0 w W g s x bs) (hp : PBx w g gp y) : PBx W g gp y := ⟨h.pblk hp, hp.2⟩
theorem PF.num (h : PF w0 w W g s x bs) (hp : PBx w g gp y) : Calls Tryd.prog 21 #[.pointer (some ⟨gp, 0, none⟩)] W fun e w' => e = .returned (.int .i64 (pcN s x).1) ∧ PF w0 w w' g s (pcN s x).2 bs :=
 (p_number w0 W g gp y s x h.S (h.pblk hp)).mono fun e w' ⟨he, hS, hK⟩ => ⟨he, h.turn hS hK⟩
theorem PF.idt (h : PF w0 w W g s x bs) (hp : PBx w g gp y) : Calls Tryd.prog 54 #[.pointer (some ⟨gp, 0, none⟩)] W fun e w' => e = .returned (.string (pcI s x).1) ∧ PF w0 w w' g s (pcI s x).2 bs :=
 (p_identifier w0 W g gp y s x h.S (h.pblk hp)).mono fun e w' ⟨he, hS, hK⟩ => ⟨he, h.turn hS hK⟩
end
theorem kinds_C {W : World} (hT : StrsAt W 0 tKinds) : Kd.string.C W (some ⟨0, 0, none⟩) tKinds.length tKinds :=
 Kd.C_of_reads (d := ByteArray.empty) ⟨rfl, by decide, fun _ => ⟨_, rfl, fun j hj => by
  have h2 := hT.cell j
  have e : (Addr.add ⟨0, 0, none⟩ j) = ⟨0, j, none⟩ := by
   unfold Addr.add
   split
   ·rename_i h0; subst h0; rfl
   ·simp
  rw [e, h2, List.getElem?_map, List.getD, List.getElem?_eq_getElem (show j < tKinds.length from hj)]
  rfl⟩⟩
theorem PF.kinds {w0 w W : World} {g gp : Nat} {y : Int} {s : ByteArray} {x : Sc} {bs : List (Nat × Obj)} (h : PF w0 w W g s x bs) (hp : PBx w g gp y) (hT : Tabs w0) :
  Calls Tryd.prog 51 #[.pointer (some ⟨gp, 0, none⟩), .slice (some ⟨0, 0, none⟩) 3 3] W fun e w' => e = .returned (.int .i64 (pcC s tKinds x).1) ∧ PF w0 w w' g s (pcC s tKinds x).2 bs := by
 have hlt := hT.kinds.lt
 have hge := h.S.I.ge
 refine (p_choice w0 W g gp y s x h.S (h.pblk hp) (some ⟨0, 0, none⟩) 3 3 tKinds rfl (fun W' hk => kinds_C ?_) (fun ad e _ => by obtain rfl := Option.some.inj e; show 0 ≠ g; omega)).mono fun e w' ⟨he, hS, hK⟩ => ⟨he, h.turn hS hK⟩
 obtain ⟨t, fr, hb⟩ := hT.kinds.below h.S.B
 exact ⟨t, fr, hk.blk hb (by omega) (by simp)⟩
def pcD (s : ByteArray) (y : Int) (x : Sc) : S37 × Sc := (⟨y, (pcN s x).1, (pcN s (pcN s x).2).1⟩, (pcN s (pcN s x).2).2)
theorem p_date (w0 w : World) (g gp : Nat) (y : Int) (s : ByteArray) (x : Sc) (h : SP w0 w g s x) (hp : PBx w g gp y) :
  Calls Tryd.prog 49 #[.pointer (some ⟨gp, 0, none⟩)] w fun e w' => e = .returned (.agg #[.int .i64 (pcD s y x).1.f0, .int .i64 (pcD s y x).1.f1, .int .i64 (pcD s y x).1.f2]) ∧ SP w0 w' g s (pcD s y x).2 ∧ KeepBut w w' g none := by
 obtain ⟨N, hN⟩ : ∃ N, N = w.heap.size := ⟨_, rfl⟩
 obtain ⟨W, hW⟩ : ∃ W, W = w.alloc (.cells #[.int .i64 0, .int .i64 0, .int .i64 0] 37) := ⟨_, rfl⟩
 have hF : PF w0 w W g s x [(N, .cells #[.int .i64 0, .int .i64 0, .int .i64 0] 37)] := by
  rw [hW]
  exact (PF.start h).make hN.symm (.cells #[.int .i64 0, .int .i64 0, .int .i64 0] 37)
 have HP := Aside0.mk hp
 have H0 := Aside0.mk h.B.size
 have hne : gp ≠ N := by have := blk_lt hp.1; omega
 have HN := Aside0.mk hN
 have HW := Aside0.mk hW
 have HF := Aside0.mk hF
 clear h hp hN hF
 go_enter Tryd.func49, Tryd.ntmps49
 go_upto_region 1 with fail
 rw [← HW.out, ← HN.out]
 clear hW
 go_region_held3 (fun w' => w'.cell? ⟨gp, 1, none⟩ = some (.int .i64 y)) (first | (with_reducible exact HF.out.c1 HP.out) | (with_reducible exact HF.out.drew.c1 HP.out) | (with_reducible exact set3_cell _ _ _ (HF.out.c1 HP.out) hne) | go_keep) (first | (go_at_call 21; (first | (with_reducible refine Calls.mono (HF.out.num HP.out) ?_) | (with_reducible refine Calls.mono (HF.out.drew.num HP.out) ?_)); rintro e w2 ⟨rfl, h2⟩; have n0_ := Aside0.mk h2; clear HF h2; have HF := n0_; clear n0_; obtain ⟨⟨e0, e1, e2⟩, f0, f1, f2⟩ := tri (HF.out.has (List.Mem.head _))))
 all_goals have h6 := HF.out.set3 (i := 0) (bs' := []) H0.out (List.Mem.head _) (.int .i64 y) (.int .i64 (pcN s x).1) (.int .i64 (pcN s (pcN s x).2).1) rfl (fun q hq => by simp at hq)
 all_goals go_wp2_with fail
 all_goals refine bodyPost_ret (results_cell_row rfl _ _ N 37 #[.int .i64 y, .int .i64 (pcN s x).1, .int .i64 (pcN s (pcN s x).2).1] (0, 0) _ rfl (set3_blk (i := 0) (HF.out.has (List.Mem.head _)) _ _ _) Tryd.underlying37 rfl (by kernel_rfl)) rfl ?_
 all_goals exact ⟨rfl, h6.S, h6.K⟩
def wkName (n : Int) : ByteArray := if 0 ≤ n ∧ n < 7 then tDays.getD n.toNat ⟨#[]⟩ else ⟨#[]⟩
theorem wk_name (w : World) (n : Int) (hT : Tabs w) : Calls Tryd.prog 37 #[.int .i64 n] w fun e w' => e = .returned (.string (wkName n)) ∧ w' = w := by
 by_cases h1 : n < 0
 ·have hn : wkName n = ⟨#[]⟩ := by unfold wkName; rw [if_neg (by omega)]
  rw [hn]
  clear hn hT
  go_enter Tryd.func37, Tryd.ntmps37
  go_wp2_with fail
  go_ret
  exact ⟨rfl, rfl⟩
 ·by_cases h2 : n < 7
  ·obtain ⟨k, rfl⟩ : ∃ k : Nat, n = (k : Int) := ⟨n.toNat, by omega⟩
   have hk : k < 7 := by omega
   have hc : w.cell? ⟨1, k, none⟩ = some (.string (wkName (k : Int))) := by
    rw [hT.days.cell k]
    unfold wkName
    rw [if_pos (by omega), Int.toNat_natCast]
    rw [List.getElem?_map, List.getD, List.getElem?_eq_getElem (show k < tDays.length from hk)]
    rfl
   obtain ⟨v, hv⟩ : ∃ v, wkName (k : Int) = v := ⟨_, rfl⟩
   rw [hv] at hc ⊢
   clear hv hT
   go_enter Tryd.func37, Tryd.ntmps37
   go_wp2_with fail
   go_ret
   exact ⟨rfl, rfl⟩
  ·have hn : wkName n = ⟨#[]⟩ := by unfold wkName; rw [if_neg (by omega)]
   rw [hn]
   clear hn hT
   go_enter Tryd.func37, Tryd.ntmps37
   go_wp2_with fail
   go_ret
   exact ⟨rfl, rfl⟩
theorem R_sl_ {α : Type} {d : Kd α} {e base : Nat} {ok : Nat → Prop} {w : World} {v : Value} {xs : List α} (h : d.R e w base ok v xs) (n : Nat) (hn : xs.length = n) : ∃ A c, v = .slice A n c := by
 subst hn; exact Kd.R_slice h
theorem p_names (w : World) (hT : Tabs w) :
  Calls Tryd.prog 52 #[] w fun e w' => ∃ A c, e = .returned (.slice A 7 c) ∧ Kd.R Kd.string 9 w' w.heap.size (fun _ => True) (.slice A 7 c) tDays ∧ Below w.heap.size w w' := by
 have HT := Aside0.mk hT
 clear hT
 go_enter Tryd.func52, Tryd.ntmps52
 go_wp2_with fail
 go_loopg [1, 3] 7 (fun kq v4 v23 w' => ∃ i : Nat, v23 = .int .i64 i ∧ Aside0 (i + kq = 7) ∧ ∃ A c, v4 = .slice A i c ∧ Aside0 (Kd.R Kd.string 9 w' w.heap.size (fun _ => True) (.slice A i c) (tDays.take i) ∧ Below w.heap.size w w'))
 case atStart => exact ⟨0, rfl, ⟨rfl⟩, none, 0, rfl, ⟨Kd.R_nil _ _ _ _ _, Below.refl _ _⟩⟩
 case round =>
  obtain ⟨i, rfl, HI, A, c, rfl, HR⟩ := hrel
  by_cases hi : i < 7
  ·obtain ⟨k1, rfl⟩ : ∃ m, gk = m + 1 := ⟨gk - 1, by have := HI.out; omega⟩
   have d1 : decide ((i : Int) < 7) = true := decide_eq_true (by omega)
   have d2 : decide (i < 7) = true := decide_eq_true hi
   have HWN := Aside0.mk (wk_name wr i (HT.out.below HR.out.2))
   go_wp2_with (first | (go_at_call 37; refine Calls.mono HWN.out ?_; rintro e w3 ⟨rfl, rfl⟩) | (at_builtin; refine Kd.R_append Kd.string (w0 := w) w.heap.size rfl (.tmp 6) (.tmp 9) 38 9 (.string ⟨#[]⟩) 16 rfl Tryd.underlying38 info9 rfl (by decide) (by omega) (.slice A i c) (tDays.take i) (wkName i) [.string (wkName i)] (fun _ => True) (fun _ => False) rfl rfl rfl (fun _ h => h.elim) (fun _ _ => trivial) HR.out.1 HR.out.2 HR.out.2.size (by have : (tDays.take i).length ≤ 7 := (by simp only [List.length_take]; have := Nat.min_le_left i tDays.length; omega); omega) ?_; intro v1 w6 hr hb hg hat; have H1 := Aside0.mk (And.intro hr hb); clear hr hb hg hat))
   have e : tDays.take i ++ [wkName i] = tDays.take (i + 1) := by
    rw [List.take_succ_eq_append_getElem (show i < tDays.length from hi)]
    unfold wkName
    rw [if_pos (by omega), Int.toNat_natCast, List.getD, List.getElem?_eq_getElem (show i < tDays.length from hi)]
    rfl
   rw [e] at H1
   obtain ⟨A', c', rfl⟩ := R_sl_ H1.out.1 (i + 1) (by rw [List.length_take]; exact Nat.min_eq_left (by exact hi))
   go_roundg k1
   case measure => omega
   case rel => exact ⟨i + 1, by go_num, ⟨by have := HI.out; omega⟩, A', c', rfl, H1⟩
  ·obtain rfl : i = 7 := by have := HI.out; omega
   clear HI hi
   go_wp2_with fail
   go_ret
   exact ⟨A, c, rfl, HR.out⟩
end Go.Proofs.YtlchefonlfokgaaDoor.Q
end
section
namespace Go.Proofs.YtlchefonlfokgaaDoor.Q
open Go.RowKit Go.Proofs.YtlchefonlfokgaaDoorW.PrintWords Go.Proofs.YtlchefonlfokgaaDoorW.PrintLast Go.Proofs.YtlchefonlfokgaaDoorW.PrintMore
set_option maxRecDepth 100000
def wWith : List ByteArray := [⟨#[10]⟩, ⟨#[32, 119, 105, 116, 104]⟩]
def wOut : Bool → List ByteArray
 | false => [⟨#[32]⟩, ⟨#[111, 117, 116, 32]⟩]
 | true => [⟨#[111, 117, 116, 32]⟩]
def tlL (s : ByteArray) : Nat → Bool → List ByteArray → List ByteArray → Sc → List ByteArray × List ByteArray × Sc
 | 0, _, lc, lo, x => (lc, lo, x)
 | k + 1, om, lc, lo, x =>
  if (scW s wWith x).1 = 1 then
   if (scW s (wOut om) (scW s wWith x).2).1 = 0 ∧ om = false then tlL s k false (lc ++ [(scI s (scW s (wOut om) (scW s wWith x).2).2).1]) lo (scI s (scW s (wOut om) (scW s wWith x).2).2).2
   else tlL s k true lc (lo ++ [(scI s (scW s (wOut om) (scW s wWith x).2).2).1]) (scI s (scW s (wOut om) (scW s wWith x).2).2).2
  else (lc, lo, (scW s wWith x).2)
def left_ (s : ByteArray) (x : Sc) : Nat := (s.size - x.1) + (if x.2 = true then 0 else 1)
theorem scW_badE (s : ByteArray) (l : List ByteArray) {x : Sc} (h : x.2 = true) : scW s l x = (-1, x) := by unfold scW; rw [if_pos h]
theorem tlL_end (s : ByteArray) (k : Nat) (om : Bool) (lc lo : List ByteArray) (x : Sc) (h : (scW s wWith x).1 ≠ 1) (hk : left_ s x ≤ k) : tlL s k om lc lo x = (lc, lo, (scW s wWith x).2) := by
 cases k with
 | zero =>
  have hx : x.2 = true := by
   by_cases hx : x.2 = true
   ·exact hx
   ·unfold left_ at hk; rw [if_neg hx] at hk; omega
  rw [scW_badE s _ hx]
  rfl
 | succ k => rw [tlL, if_neg h]
abbrev eC (e : S40) (v8 v9 : Value) : Array Value := #[.int .i64 e.f0.f0, .int .i64 e.f0.f1, .int .i64 e.f0.f2, .int .i64 e.f1, .string e.f2, .int .i64 e.f3, .int .i64 e.f4, .string e.f5, .int .i64 e.f6, .int .i64 e.f7.f0, .int .i64 e.f7.f1, .int .i64 e.f7.f2, v8, v9]
structure TI (w0 w W : World) (g gp be : Nat) (y : Int) (s : ByteArray) (x : Sc) (e : S40) (v8 v9 : Value) (lc lo : List ByteArray) : Prop where
 S : SP w0 W g s x
 K : KeepBut w W g (some be)
 P : PBx W g gp y
 E : W.heap[be]? = some (.cells (eC e v8 v9) 40 (0, 0))
 R1 : Kd.R Kd.string 9 W w.heap.size (fun k => some k ≠ v9.ownBlock) v8 lc
 R2 : Kd.R Kd.string 9 W w.heap.size (fun k => some k ≠ v8.ownBlock) v9 lo
 Z : w0.heap.size ≤ w.heap.size ∧ w0.heap.size ≤ be
section
variable {w0 w W : World} {g gp_ be : Nat} {y : Int} {s : ByteArray} {x : Sc} {e : S40} {v8 v9 : Value} {lc lo : List ByteArray}
theorem TI.ne (h : TI w0 w W g gp_ be y s x e v8 v9 lc lo) : be ≠ g := (h.S.I.ne_blk h.E (by decide)).symm
theorem TI.turn {W' : World} {x' : Sc} (h : TI w0 w W g gp_ be y s x e v8 v9 lc lo) (hS : SP w0 W' g s x') (hK : KeepBut W W' g none) : TI w0 w W' g gp_ be y s x' e v8 v9 lc lo :=
 ⟨hS, ⟨Nat.le_trans h.K.1 hK.1, fun i hi hg hr => (hK.2 i (Nat.lt_of_lt_of_le hi h.K.1) hg (by simp)).trans (h.K.2 i hi hg hr)⟩, ⟨hK.blk h.P.1 h.P.2 (by simp), h.P.2⟩, hK.blk h.E h.ne (by simp), 
  Kd.R_mono (Kd.R_keep (h.S.I.apart h.R1 (by decide)) hK (fun _ hk => hk.2)) (fun _ hk => hk.1), Kd.R_mono (Kd.R_keep (h.S.I.apart h.R2 (by decide)) hK (fun _ hk => hk.2)) (fun _ hk => hk.1), h.Z⟩
theorem TI.below {W' : World} (h : TI w0 w W g gp_ be y s x e v8 v9 lc lo) (hb : Below W.heap.size W W') : TI w0 w W' g gp_ be y s x e v8 v9 lc lo := h.turn (h.S.below hb) (KeepBut.of_below hb _ _)
theorem TI.drew (h : TI w0 w W g gp_ be y s x e v8 v9 lc lo) : TI w0 w W.drew g gp_ be y s x e v8 v9 lc lo := h.below (below_drew (Below.refl _ _))
theorem TI.alloc (h : TI w0 w W g gp_ be y s x e v8 v9 lc lo) (o : Obj) : TI w0 w (W.alloc o) g gp_ be y s x e v8 v9 lc lo := h.below (below_alloc (Below.refl _ _) o)
theorem TI.c0 (h : TI w0 w W g gp_ be y s x e v8 v9 lc lo) : W.cell? ⟨gp_, 0, none⟩ = some (.pointer (some ⟨g, 0, none⟩)) := blk_cell h.P.1 0
theorem TI.c12 (h : TI w0 w W g gp_ be y s x e v8 v9 lc lo) : W.cell? ⟨be, 12, none⟩ = some v8 := blk_cell h.E 12
theorem TI.c13 (h : TI w0 w W g gp_ be y s x e v8 v9 lc lo) : W.cell? ⟨be, 13, none⟩ = some v9 := blk_cell h.E 13
theorem TI.fz (h : TI w0 w W g gp_ be y s x e v8 v9 lc lo) (i : Nat) : W.frozen? ⟨be, i, none⟩ = false := blk_frozen h.E i
theorem TI.lits {l1 : List ByteArray} {cs : Array Value} {n b : Nat} (h : TI w0 w W g gp_ be y s x e v8 v9 lc lo) (hz : W.heap.size = b) (hn : l1.length = n) (hl : n ≤ 9223372036854775807) (hcs : (l1.map Value.string).toArray = cs) :
  Calls Tryd.prog 20 #[.pointer (some ⟨g, 0, none⟩), .slice (some ⟨b, 0, none⟩) n n] (W.alloc (.cells cs 9)) fun e_ w' => e_ = .returned (.int .i64 (scW s l1 x).1) ∧ TI w0 w w' g gp_ be y s (scW s l1 x).2 e v8 v9 lc lo :=
 (h.S.words' hz hn hl hcs).mono fun e w' ⟨he, hS, hK⟩ => ⟨he, h.turn hS hK⟩
theorem TI.ident (h : TI w0 w W g gp_ be y s x e v8 v9 lc lo) :
  Calls Tryd.prog 81 #[.pointer (some ⟨g, 0, none⟩)] W fun e_ w' => e_ = .returned (.string (scI s x).1) ∧ TI w0 w w' g gp_ be y s (scI s x).2 e v8 v9 lc lo :=
 h.S.ident.mono fun e w' ⟨he, hS, hK⟩ => ⟨he, h.turn hS hK⟩
theorem TI.len (h : TI w0 w W g gp_ be y s x e v8 v9 lc lo) : w.heap.size ≤ W.heap.size := h.K.1
theorem TI.grown {W1 : World} {v : Value} {xs : List ByteArray} {ok : Nat → Prop} (h : TI w0 w W g gp_ be y s x e v8 v9 lc lo) (hv : Kd.R Kd.string 9 W w.heap.size ok v xs) (hb : Below w.heap.size W W1) (hg : W.grownBy W1 v.ownBlock) (u8 u9 : Value) (i : Nat) (c : Value) (hc : (eC e v8 v9).setIfInBounds i c = eC e u8 u9) :
  SP w0 (W1.setCell ⟨be, i, none⟩ c) g s x ∧ KeepBut w (W1.setCell ⟨be, i, none⟩ c) g (some be) ∧ PBx (W1.setCell ⟨be, i, none⟩ c) g gp_ y ∧ (W1.setCell ⟨be, i, none⟩ c).heap[be]? = some (.cells (eC e u8 u9) 40 (0, 0)) ∧ W1.heap[be]? = some (.cells (eC e v8 v9) 40 (0, 0)) := by
 obtain ⟨z1, z2⟩ := h.Z
 have fc : ∀ k, k ≠ be → (W1.setCell ⟨be, i, none⟩ c).heap[k]? = W1.heap[k]? := fun k hk => Below.heap_setCell _ ⟨be, i, none⟩ _ k hk
 have hsz : (W1.setCell ⟨be, i, none⟩ c).heap.size = W1.heap.size := by simp [World.setCell]
 have hW1 : Below w0.heap.size w0 W1 := below_weaken h.S.B z1 hb
 have hE : W1.heap[be]? = some (.cells (eC e v8 v9) 40 (0, 0)) := blk_grown h.E hg (Kd.R_ne hv h.E (by decide))
 have hG := blk_grown h.S.I.1 hg (Kd.R_ne hv h.S.I.1 (by decide))
 have hP := blk_grown h.P.1 hg (Kd.R_ne hv h.P.1 (by decide))
 have hpe : gp_ ≠ be := by
  intro e0
  have h1 := h.P.1
  rw [e0, h.E] at h1
  injection h1 with h1
  injection h1 with _ h2
  exact absurd h2 (by decide)
 refine ⟨⟨⟨(fc g (fun e => h.ne e.symm)).trans hG, h.S.I.2⟩, below_set hW1 z2, h.S.L, h.S.Z⟩, ⟨by rw [hsz]; exact Nat.le_trans h.K.1 hb.size, fun k hk hkg hr => ?_⟩, ⟨(fc gp_ hpe).trans hP, h.P.2⟩, blk_put hE i c hc, hE⟩
 rw [fc k (fun e => hr (by rw [e])), hb.block k hk]
 exact h.K.2 k hk hkg hr
theorem TI.app8 {W1 : World} {id : ByteArray} {v1 : Value} (h : TI w0 w W g gp_ be y s x e v8 v9 lc lo) (hr : Kd.R Kd.string 9 W1 w.heap.size (fun k => some k ≠ v9.ownBlock) v1 (lc ++ [id])) (hb : Below w.heap.size W W1) (hg : W.grownBy W1 v8.ownBlock) (hat : v1.ownBlock = v8.ownBlock ∨ ∃ b, v1.ownBlock = some b ∧ W.heap.size ≤ b) :
  TI w0 w (W1.setCell ⟨be, 12, none⟩ v1) g gp_ be y s x e v1 v9 (lc ++ [id]) lo := by
 obtain ⟨g1, g2, g3, g4, hE⟩ := h.grown h.R1 hb hg v1 v9 12 v1 rfl
 have o2 := Kd.R_after (ok := fun _ => True) (Kd.R_mono h.R2 (fun k hk => ⟨trivial, hk⟩)) hg hat
 have st : ∀ {v : Value} {xs : List ByteArray} {ok : Nat → Prop}, Kd.R Kd.string 9 W1 w.heap.size ok v xs → Kd.R Kd.string 9 (W1.setCell ⟨be, 12, none⟩ v1) w.heap.size ok v xs := fun hR => Kd.R_mono (Kd.R_step (Kd.R_types hR hE (by decide)) (fun k hk _ => Below.heap_setCell _ ⟨be, 12, none⟩ _ k hk.2)) (fun _ hk => hk.1)
 exact ⟨g1, g2, g3, g4, st hr, Kd.R_mono (st o2) (fun _ hk => hk.2), h.Z⟩
theorem TI.app9 {W1 : World} {id : ByteArray} {v1 : Value} (h : TI w0 w W g gp_ be y s x e v8 v9 lc lo) (hr : Kd.R Kd.string 9 W1 w.heap.size (fun k => some k ≠ v8.ownBlock) v1 (lo ++ [id])) (hb : Below w.heap.size W W1) (hg : W.grownBy W1 v9.ownBlock) (hat : v1.ownBlock = v9.ownBlock ∨ ∃ b, v1.ownBlock = some b ∧ W.heap.size ≤ b) :
  TI w0 w (W1.setCell ⟨be, 13, none⟩ v1) g gp_ be y s x e v8 v1 lc (lo ++ [id]) := by
 obtain ⟨g1, g2, g3, g4, hE⟩ := h.grown h.R2 hb hg v8 v1 13 v1 rfl
 have o2 := Kd.R_after (ok := fun _ => True) (Kd.R_mono h.R1 (fun k hk => ⟨trivial, hk⟩)) hg hat
 have st : ∀ {v : Value} {xs : List ByteArray} {ok : Nat → Prop}, Kd.R Kd.string 9 W1 w.heap.size ok v xs → Kd.R Kd.string 9 (W1.setCell ⟨be, 13, none⟩ v1) w.heap.size ok v xs := fun hR => Kd.R_mono (Kd.R_step (Kd.R_types hR hE (by decide)) (fun k hk _ => Below.heap_setCell _ ⟨be, 13, none⟩ _ k hk.2)) (fun _ hk => hk.1)
 exact ⟨g1, g2, g3, g4, Kd.R_mono (st o2) (fun _ hk => hk.2), st hr, h.Z⟩
end
end Go.Proofs.YtlchefonlfokgaaDoor.Q
end
section
namespace Go.Proofs.YtlchefonlfokgaaDoor.Q
open Go.RowKit Go.Proofs.YtlchefonlfokgaaDoorW.PrintWords Go.Proofs.YtlchefonlfokgaaDoorW.PrintLast Go.Proofs.YtlchefonlfokgaaDoorW.PrintMore
set_option maxRecDepth 100000
def enS (s : ByteArray) (y : Int) : Nat → S40 × Sc → S40 × Sc
 | 0, (e, x) => (⟨(pcD s y x).1, e.f1, e.f2, e.f3, e.f4, e.f5, e.f6, e.f7, e.f8, e.f9⟩, (pcD s y x).2)
 | 1, (e, x) => (⟨e.f0, (pcC s tDays x).1, e.f2, e.f3, e.f4, e.f5, e.f6, e.f7, e.f8, e.f9⟩, (pcC s tDays x).2)
 | 2, (e, x) => (⟨e.f0, e.f1, (pcI s x).1, e.f3, e.f4, e.f5, e.f6, e.f7, e.f8, e.f9⟩, (pcI s x).2)
 | 3, (e, x) => (⟨e.f0, e.f1, e.f2, (pcN s x).1, e.f4, e.f5, e.f6, e.f7, e.f8, e.f9⟩, (pcN s x).2)
 | 4, (e, x) => (⟨e.f0, e.f1, e.f2, e.f3, wrap64 ((pcC s tKinds x).1 + 1), e.f5, e.f6, e.f7, e.f8, e.f9⟩, (pcC s tKinds x).2)
 | 5, (e, x) => (⟨e.f0, e.f1, e.f2, e.f3, e.f4, (pcI s x).1, e.f6, e.f7, e.f8, e.f9⟩, (pcI s x).2)
 | _, (e, x) => (⟨e.f0, e.f1, e.f2, e.f3, e.f4, e.f5, (pcN s x).1, e.f7, e.f8, e.f9⟩, (pcN s x).2)
def enF (s : ByteArray) (y : Int) (x : Sc) : Nat → S40 × Sc
 | 0 => (z40, x)
 | k + 1 => enS s y k (enF s y x k)
abbrev nil_ : Value := .slice none 0 0
abbrev fnBlk (N : Nat) : Obj := .cells #[.func (.func 48) #[] #[.pointer (some ⟨N, 0, none⟩), .pointer (some ⟨N + 2, 0, none⟩)], .func (.func 50) #[] #[.pointer (some ⟨N, 0, none⟩), .pointer (some ⟨N + 2, 0, none⟩)], .func (.func 53) #[] #[.pointer (some ⟨N, 0, none⟩), .pointer (some ⟨N + 2, 0, none⟩)], .func (.func 55) #[] #[.pointer (some ⟨N, 0, none⟩), .pointer (some ⟨N + 2, 0, none⟩)], .func (.func 56) #[] #[.pointer (some ⟨N, 0, none⟩), .pointer (some ⟨N + 2, 0, none⟩)], .func (.func 57) #[] #[.pointer (some ⟨N, 0, none⟩), .pointer (some ⟨N + 2, 0, none⟩)], .func (.func 58) #[] #[.pointer (some ⟨N, 0, none⟩), .pointer (some ⟨N + 2, 0, none⟩)]] 1
abbrev bsE (gp N : Nat) (e : S40) : List (Nat × Obj) := [(N, .cells #[.pointer (some ⟨gp, 0, none⟩)] 44), (N + 1, .cells (eC z40 nil_ nil_) 40), (N + 2, .cells (eC e nil_ nil_) 40), (N + 3, fnBlk N)]
theorem four {gp N : Nat} {e e' : S40} : ∀ q ∈ bsE gp N e', q = (N + 2, .cells (eC e' nil_ nil_) 40) ∨ (q.1 ≠ N + 2 ∧ q ∈ bsE gp N e) := by
 intro q hq
 simp only [bsE, List.mem_cons, List.not_mem_nil, or_false] at hq
 rcases hq with rfl | rfl | rfl | rfl
 ·exact .inr ⟨by simp, List.Mem.head _⟩
 ·exact .inr ⟨by simp, List.Mem.tail _ (List.Mem.head _)⟩
 ·exact .inl rfl
 ·exact .inr ⟨by simp, List.Mem.tail _ (List.Mem.tail _ (List.Mem.tail _ (List.Mem.head _)))⟩
section
variable {w0 w W : World} {g gp N : Nat} {y : Int} {s : ByteArray} {x : Sc} {bs : List (Nat × Obj)} {e : S40}
theorem PF.names (h : PF w0 w W g s x bs) (hT : Tabs w0) : Calls Tryd.prog 52 #[] W fun e_ w' => ∃ A c, e_ = .returned (.slice A 7 c) ∧ PF w0 w w' g s x bs ∧ (∀ W', KeepBut w' W' g none → Kd.string.C W' A 7 tDays) ∧ (∀ ad, A = some ad → ad.block ≠ g) := by
 refine (p_names W (hT.below h.S.B)).mono fun e_ w' ⟨A, c, he, hR, hB⟩ => ?_
 have hg := h.S.lt
 have hC := Kd.C_foot_own (g := g) (Kd.R_bound hR) (fun k hk => by have h1 := hk.2.1; omega)
 refine ⟨A, c, he, h.below hB, fun W' hk => hC W' hk, ?_⟩
 intro ad e0
 subst e0
 exact Kd.foot_ne hC (by decide) (by decide)
theorem PF.choose {A : Option Addr} {c : Nat} (h : PF w0 w W g s x bs) (hp : PBx w g gp y) (hC : ∀ W', KeepBut W W' g none → Kd.string.C W' A 7 tDays) (hA : ∀ ad, A = some ad → ad.block ≠ g) :
  Calls Tryd.prog 51 #[.pointer (some ⟨gp, 0, none⟩), .slice A 7 c] W fun e_ w' => e_ = .returned (.int .i64 (pcC s tDays x).1) ∧ PF w0 w w' g s (pcC s tDays x).2 bs :=
 (p_choice w0 W g gp y s x h.S (h.pblk hp) A c 7 tDays rfl hC (fun ad e _ => hA ad e)).mono fun e w' ⟨he, hS, hK⟩ => ⟨he, h.turn hS hK⟩
theorem PF.b0 (h : PF w0 w W g s x (bsE gp N e)) : W.cell? ⟨N, 0, none⟩ = some (.pointer (some ⟨gp, 0, none⟩)) := h.cell (i := 0) (List.Mem.head _) rfl
theorem PF.eE (h : PF w0 w W g s x (bsE gp N e)) : W.heap[N + 2]? = some (.cells (eC e nil_ nil_) 40 (0, 0)) := h.has (List.Mem.tail _ (List.Mem.tail _ (List.Mem.head _)))
theorem PF.eS {e' : S40} {i : Nat} {v : Value} (h : PF w0 w W g s x (bsE gp N e)) (h0 : w0.heap.size ≤ w.heap.size) (hc : (eC e nil_ nil_).setIfInBounds i v = eC e' nil_ nil_) : PF w0 w (W.setCell ⟨N + 2, i, none⟩ v) g s x (bsE gp N e') :=
 h.set1 h0 (List.Mem.tail _ (List.Mem.tail _ (List.Mem.head _))) (fun q hq => by rw [hc]; exact four q hq)
theorem set1_cell {b k i j : Nat} {v : Value} (a0 : Value) (h : W.cell? ⟨k, j, none⟩ = some v) (hk : k ≠ b) : (W.setCell ⟨b, i, none⟩ a0).cell? ⟨k, j, none⟩ = some v :=
 (World.cell?_of_block (w := W) (w' := W.setCell ⟨b, i, none⟩ a0) (a := ⟨k, j, none⟩) (Below.heap_setCell W ⟨b, i, none⟩ a0 k hk)).trans h
end
theorem cl_0 (w0 w W : World) (g gp N : Nat) (y : Int) (s : ByteArray) (x : Sc) (e : S40) (h : PF w0 w W g s x (bsE gp N e)) (hp : PBx w g gp y) (h0 : w0.heap.size ≤ w.heap.size) (hT : Tabs w0) :
  Calls Tryd.prog 48 #[.pointer (some ⟨N, 0, none⟩), .pointer (some ⟨N + 2, 0, none⟩)] W fun e_ w' => e_ = .returned (.tuple #[]) ∧ PF w0 w w' g s (enS s y 0 (e, x)).2 (bsE gp N (enS s y 0 (e, x)).1) := by
 have HF := Aside0.mk h
 have HP := Aside0.mk hp
 have HT := Aside0.mk hT
 have H0 := Aside0.mk h0
 have c0 := h.b0
 clear h hp hT h0
 go_enter Tryd.func48, Tryd.ntmps48
 go_wp2_with fail
 refine Calls.mono (p_date w0 W g gp y s x HF.out.S (HF.out.pb HP.out)) ?_
 rintro e_ w1 ⟨rfl, hS, hK⟩
 have n0_ := Aside0.mk (HF.out.turn hS hK)
 clear HF hS hK c0
 have HF := n0_
 clear n0_
 have e0 : w1.cell? ⟨N + 2, 0, none⟩ = _ := blk_cell HF.out.eE 0
 have f0 : w1.frozen? ⟨N + 2, 0, none⟩ = false := blk_frozen HF.out.eE 0
 have e1 : w1.cell? ⟨N + 2, 1, none⟩ = _ := blk_cell HF.out.eE 1
 have f1 : w1.frozen? ⟨N + 2, 1, none⟩ = false := blk_frozen HF.out.eE 1
 have e2 : w1.cell? ⟨N + 2, 2, none⟩ = _ := blk_cell HF.out.eE 2
 have f2 : w1.frozen? ⟨N + 2, 2, none⟩ = false := blk_frozen HF.out.eE 2
 go_wp2_with fail
 go_end0
 exact ⟨rfl, HF.out.set3 (i := 0) H0.out (List.Mem.tail _ (List.Mem.tail _ (List.Mem.head _))) _ _ _ rfl four⟩
theorem cl_1 (w0 w W : World) (g gp N : Nat) (y : Int) (s : ByteArray) (x : Sc) (e : S40) (h : PF w0 w W g s x (bsE gp N e)) (hp : PBx w g gp y) (h0 : w0.heap.size ≤ w.heap.size) (hT : Tabs w0) :
  Calls Tryd.prog 50 #[.pointer (some ⟨N, 0, none⟩), .pointer (some ⟨N + 2, 0, none⟩)] W fun e_ w' => e_ = .returned (.tuple #[]) ∧ PF w0 w w' g s (enS s y 1 (e, x)).2 (bsE gp N (enS s y 1 (e, x)).1) := by
 have HF := Aside0.mk h
 have HP := Aside0.mk hp
 have HT := Aside0.mk hT
 have H0 := Aside0.mk h0
 have c0 := h.b0
 clear h hp hT h0
 go_enter Tryd.func50, Tryd.ntmps50
 have hne : N ≠ N + 2 := by omega
 go_region_held3 (fun w' => w'.cell? ⟨N, 0, none⟩ = some (.pointer (some ⟨gp, 0, none⟩))) (first | (with_reducible exact HF.out.b0) | (with_reducible exact HF.out.drew.b0) | (with_reducible exact set1_cell _ HF.out.b0 hne) | go_keep) (first | (go_at_call 52; (first | (with_reducible refine Calls.mono (HF.out.names HT.out) ?_) | (with_reducible refine Calls.mono (HF.out.drew.names HT.out) ?_)); rintro e_ w2 ⟨A, c, rfl, h2, h3, h4⟩; have n0_ := Aside0.mk h2; clear HF h2; have HF := n0_; clear n0_; have HC := Aside0.mk h3; have HA := Aside0.mk h4; clear h3 h4) | (go_at_call 51; (with_reducible refine Calls.mono (HF.out.choose HP.out HC.out HA.out) ?_); rintro e_ w2 ⟨rfl, h2⟩; have n0_ := Aside0.mk h2; clear HF h2; have HF := n0_; clear n0_; have e3 := blk_cell HF.out.eE 3; have f3 := blk_frozen HF.out.eE 3))
 all_goals go_wp2_with fail
 all_goals go_end0
 all_goals exact ⟨rfl, HF.out.eS H0.out rfl⟩
theorem cl_2 (w0 w W : World) (g gp N : Nat) (y : Int) (s : ByteArray) (x : Sc) (e : S40) (h : PF w0 w W g s x (bsE gp N e)) (hp : PBx w g gp y) (h0 : w0.heap.size ≤ w.heap.size) (hT : Tabs w0) :
  Calls Tryd.prog 53 #[.pointer (some ⟨N, 0, none⟩), .pointer (some ⟨N + 2, 0, none⟩)] W fun e_ w' => e_ = .returned (.tuple #[]) ∧ PF w0 w w' g s (enS s y 2 (e, x)).2 (bsE gp N (enS s y 2 (e, x)).1) := by
 have HF := Aside0.mk h
 have HP := Aside0.mk hp
 have HT := Aside0.mk hT
 have H0 := Aside0.mk h0
 have c0 := h.b0
 clear h hp hT h0
 go_enter Tryd.func53, Tryd.ntmps53
 go_wp2_with fail
 refine Calls.mono (HF.out.idt HP.out) ?_
 rintro e_ w1 ⟨rfl, h1⟩
 have n0_ := Aside0.mk h1
 clear HF h1 c0
 have HF := n0_
 clear n0_
 have e4 : w1.cell? ⟨N + 2, 4, none⟩ = _ := blk_cell HF.out.eE 4
 have f4 : w1.frozen? ⟨N + 2, 4, none⟩ = false := blk_frozen HF.out.eE 4
 go_wp2_with fail
 go_end0
 exact ⟨rfl, HF.out.eS H0.out rfl⟩
theorem cl_3 (w0 w W : World) (g gp N : Nat) (y : Int) (s : ByteArray) (x : Sc) (e : S40) (h : PF w0 w W g s x (bsE gp N e)) (hp : PBx w g gp y) (h0 : w0.heap.size ≤ w.heap.size) (hT : Tabs w0) :
  Calls Tryd.prog 55 #[.pointer (some ⟨N, 0, none⟩), .pointer (some ⟨N + 2, 0, none⟩)] W fun e_ w' => e_ = .returned (.tuple #[]) ∧ PF w0 w w' g s (enS s y 3 (e, x)).2 (bsE gp N (enS s y 3 (e, x)).1) := by
 have HF := Aside0.mk h
 have HP := Aside0.mk hp
 have HT := Aside0.mk hT
 have H0 := Aside0.mk h0
 have c0 := h.b0
 clear h hp hT h0
 go_enter Tryd.func55, Tryd.ntmps55
 go_wp2_with fail
 refine Calls.mono (HF.out.num HP.out) ?_
 rintro e_ w1 ⟨rfl, h1⟩
 have n0_ := Aside0.mk h1
 clear HF h1 c0
 have HF := n0_
 clear n0_
 have e5 : w1.cell? ⟨N + 2, 5, none⟩ = _ := blk_cell HF.out.eE 5
 have f5 : w1.frozen? ⟨N + 2, 5, none⟩ = false := blk_frozen HF.out.eE 5
 go_wp2_with fail
 go_end0
 exact ⟨rfl, HF.out.eS H0.out rfl⟩
theorem cl_4 (w0 w W : World) (g gp N : Nat) (y : Int) (s : ByteArray) (x : Sc) (e : S40) (h : PF w0 w W g s x (bsE gp N e)) (hp : PBx w g gp y) (h0 : w0.heap.size ≤ w.heap.size) (hT : Tabs w0) :
  Calls Tryd.prog 56 #[.pointer (some ⟨N, 0, none⟩), .pointer (some ⟨N + 2, 0, none⟩)] W fun e_ w' => e_ = .returned (.tuple #[]) ∧ PF w0 w w' g s (enS s y 4 (e, x)).2 (bsE gp N (enS s y 4 (e, x)).1) := by
 have HF := Aside0.mk h
 have HP := Aside0.mk hp
 have HT := Aside0.mk hT
 have H0 := Aside0.mk h0
 have c0 := h.b0
 clear h hp hT h0
 go_enter Tryd.func56, Tryd.ntmps56
 have hne : N ≠ N + 2 := by omega
 go_region_held3 (fun w' => w'.cell? ⟨N, 0, none⟩ = some (.pointer (some ⟨gp, 0, none⟩))) (first | (with_reducible exact HF.out.b0) | (with_reducible exact HF.out.drew.b0) | (with_reducible exact set1_cell _ HF.out.b0 hne) | go_keep) (first | (go_at_call 51; (first | (with_reducible refine Calls.mono (HF.out.kinds HP.out HT.out) ?_) | (with_reducible refine Calls.mono (HF.out.drew.kinds HP.out HT.out) ?_)); rintro e_ w2 ⟨rfl, h2⟩; have n0_ := Aside0.mk h2; clear HF h2; have HF := n0_; clear n0_; have e6 := blk_cell HF.out.eE 6; have f6 := blk_frozen HF.out.eE 6))
 all_goals go_wp2_with fail
 all_goals go_end0
 all_goals exact ⟨rfl, HF.out.eS H0.out (by rw [i64_w]; rfl)⟩
theorem cl_5 (w0 w W : World) (g gp N : Nat) (y : Int) (s : ByteArray) (x : Sc) (e : S40) (h : PF w0 w W g s x (bsE gp N e)) (hp : PBx w g gp y) (h0 : w0.heap.size ≤ w.heap.size) (hT : Tabs w0) :
  Calls Tryd.prog 57 #[.pointer (some ⟨N, 0, none⟩), .pointer (some ⟨N + 2, 0, none⟩)] W fun e_ w' => e_ = .returned (.tuple #[]) ∧ PF w0 w w' g s (enS s y 5 (e, x)).2 (bsE gp N (enS s y 5 (e, x)).1) := by
 have HF := Aside0.mk h
 have HP := Aside0.mk hp
 have HT := Aside0.mk hT
 have H0 := Aside0.mk h0
 have c0 := h.b0
 clear h hp hT h0
 go_enter Tryd.func57, Tryd.ntmps57
 go_wp2_with fail
 refine Calls.mono (HF.out.idt HP.out) ?_
 rintro e_ w1 ⟨rfl, h1⟩
 have n0_ := Aside0.mk h1
 clear HF h1 c0
 have HF := n0_
 clear n0_
 have e7 : w1.cell? ⟨N + 2, 7, none⟩ = _ := blk_cell HF.out.eE 7
 have f7 : w1.frozen? ⟨N + 2, 7, none⟩ = false := blk_frozen HF.out.eE 7
 go_wp2_with fail
 go_end0
 exact ⟨rfl, HF.out.eS H0.out rfl⟩
theorem cl_6 (w0 w W : World) (g gp N : Nat) (y : Int) (s : ByteArray) (x : Sc) (e : S40) (h : PF w0 w W g s x (bsE gp N e)) (hp : PBx w g gp y) (h0 : w0.heap.size ≤ w.heap.size) (hT : Tabs w0) :
  Calls Tryd.prog 58 #[.pointer (some ⟨N, 0, none⟩), .pointer (some ⟨N + 2, 0, none⟩)] W fun e_ w' => e_ = .returned (.tuple #[]) ∧ PF w0 w w' g s (enS s y 6 (e, x)).2 (bsE gp N (enS s y 6 (e, x)).1) := by
 have HF := Aside0.mk h
 have HP := Aside0.mk hp
 have HT := Aside0.mk hT
 have H0 := Aside0.mk h0
 have c0 := h.b0
 clear h hp hT h0
 go_enter Tryd.func58, Tryd.ntmps58
 go_wp2_with fail
 refine Calls.mono (HF.out.num HP.out) ?_
 rintro e_ w1 ⟨rfl, h1⟩
 have n0_ := Aside0.mk h1
 clear HF h1 c0
 have HF := n0_
 clear n0_
 have e8 : w1.cell? ⟨N + 2, 8, none⟩ = _ := blk_cell HF.out.eE 8
 have f8 : w1.frozen? ⟨N + 2, 8, none⟩ = false := blk_frozen HF.out.eE 8
 go_wp2_with fail
 go_end0
 exact ⟨rfl, HF.out.eS H0.out rfl⟩
def fnOf : Nat → Nat
 | 0 => 48
 | 1 => 50
 | 2 => 53
 | 3 => 55
 | 4 => 56
 | 5 => 57
 | _ => 58
theorem cl_any (w0 w W : World) (g gp N i : Nat) (y : Int) (s : ByteArray) (x : Sc) (e : S40) (hi : i < 7) (h : PF w0 w W g s x (bsE gp N e)) (hp : PBx w g gp y) (h0 : w0.heap.size ≤ w.heap.size) (hT : Tabs w0) :
  Calls Tryd.prog (fnOf i) #[.pointer (some ⟨N, 0, none⟩), .pointer (some ⟨N + 2, 0, none⟩)] W fun e_ w' => e_ = .returned (.tuple #[]) ∧ PF w0 w w' g s (enS s y i (e, x)).2 (bsE gp N (enS s y i (e, x)).1) := by
 rcases (show i = 0 ∨ i = 1 ∨ i = 2 ∨ i = 3 ∨ i = 4 ∨ i = 5 ∨ i = 6 by omega) with rfl | rfl | rfl | rfl | rfl | rfl | rfl
 ·exact cl_0 w0 w W g gp N y s x e h hp h0 hT
 ·exact cl_1 w0 w W g gp N y s x e h hp h0 hT
 ·exact cl_2 w0 w W g gp N y s x e h hp h0 hT
 ·exact cl_3 w0 w W g gp N y s x e h hp h0 hT
 ·exact cl_4 w0 w W g gp N y s x e h hp h0 hT
 ·exact cl_5 w0 w W g gp N y s x e h hp h0 hT
 ·exact cl_6 w0 w W g gp N y s x e h hp h0 hT
theorem fn_cell (N i : Nat) (hi : i < 7) : (#[.func (.func 48) #[] #[.pointer (some ⟨N, 0, none⟩), .pointer (some ⟨N + 2, 0, none⟩)], .func (.func 50) #[] #[.pointer (some ⟨N, 0, none⟩), .pointer (some ⟨N + 2, 0, none⟩)], .func (.func 53) #[] #[.pointer (some ⟨N, 0, none⟩), .pointer (some ⟨N + 2, 0, none⟩)], .func (.func 55) #[] #[.pointer (some ⟨N, 0, none⟩), .pointer (some ⟨N + 2, 0, none⟩)], .func (.func 56) #[] #[.pointer (some ⟨N, 0, none⟩), .pointer (some ⟨N + 2, 0, none⟩)], .func (.func 57) #[] #[.pointer (some ⟨N, 0, none⟩), .pointer (some ⟨N + 2, 0, none⟩)], .func (.func 58) #[] #[.pointer (some ⟨N, 0, none⟩), .pointer (some ⟨N + 2, 0, none⟩)]] : Array Value)[i]? = some (.func (.func (fnOf i)) #[] #[.pointer (some ⟨N, 0, none⟩), .pointer (some ⟨N + 2, 0, none⟩)]) := by
 rcases (show i = 0 ∨ i = 1 ∨ i = 2 ∨ i = 3 ∨ i = 4 ∨ i = 5 ∨ i = 6 by omega) with rfl | rfl | rfl | rfl | rfl | rfl | rfl <;> rfl
theorem fn_enter (i : Nat) (hi : i < 7) (args : Array Value) (W : World) : (callFunc (fnOf i) args).run Tryd.prog W = .ok (.enter (fnOf i) args) W := by
 rcases (show i = 0 ∨ i = 1 ∨ i = 2 ∨ i = 3 ∨ i = 4 ∨ i = 5 ∨ i = 6 by omega) with rfl | rfl | rfl | rfl | rfl | rfl | rfl <;> rfl
end Go.Proofs.YtlchefonlfokgaaDoor.Q
end
section
namespace Go.Proofs.YtlchefonlfokgaaDoor.Q
open Go.RowKit Go.Proofs.YtlchefonlfokgaaDoorW.PrintWords Go.Proofs.YtlchefonlfokgaaDoorW.PrintLast
set_option maxRecDepth 100000
theorem wN (n : Nat) (h : n ≤ 4611686018427387904) : wrap64 ((n : Int) + 1) = ((n + 1 : Nat) : Int) := by unfold wrap64; omega
theorem rdW {W : List ByteArray} {i : Nat} (h : i < W.length) : rdOf ByteArray.empty W (i : Int) = W[i] := by simp [rdOf, List.getD, h]
instance (l : List ByteArray) : Decidable (Free l) := by unfold Free; infer_instance
structure Wds (l : List ByteArray) : Prop where
 F : Free l
 S : ∀ w ∈ l, 0 < w.size ∧ w.size ≤ 20
 L : l.length ≤ 10
theorem scN_bad {s : ByteArray} {x : Sc} (h : x.2 = true) : scN s x = (0, x) := by unfold scN; rw [if_pos h]
theorem scI_bad {s : ByteArray} {x : Sc} (h : x.2 = true) : scI s x = (⟨#[]⟩, x) := by unfold scI; rw [if_pos h]
theorem scW_bad {s : ByteArray} {l : List ByteArray} {x : Sc} (h : x.2 = true) : scW s l x = (-1, x) := by unfold scW; rw [if_pos h]
theorem scE_bad {s : ByteArray} {x : Sc} (h : x.2 = true) : scE s x = x := by unfold scE; rw [if_pos h]
end Go.Proofs.YtlchefonlfokgaaDoor.Q
end
