/- What is proved: what the statement CattextOffsetsSaid needs, part 11 of 11; the last part proves the statement. No condition. -/
import Derived.Test.YtlfokdbnbmebiaaDoorZCOs9
import Derived.Test.YtlfokdbnbmebiaaDoorTie
import Derived.Test.YtlfokdbnbmebiaaDoorCards
import Derived.ShutString
import Derived.ChangeOld
import Derived.LaidMore
import Derived.SevenTiedAt
import Derived.Stop.Joined
set_option maxHeartbeats 8000000
set_option maxRecDepth 100000
set_option linter.unusedVariables false
set_option linter.unusedSimpArgs false
section
namespace Go.Proofs.YtlfokdbnbmebiaaDoor.Q
open Go.RowKit Go.Proofs.YtlfokdbnbmebiaaDoorW.PrintWords Go.Proofs.YtlfokdbnbmebiaaDoorW.PrintLast
set_option maxRecDepth 100000
theorem Cut.le {s : ByteArray} {k a : Nat} {u : List UInt8} (h : Cut s k a u) : a ≤ s.size := by
 obtain ⟨_, _, _, _, h2, _⟩ := h
 exact h2.1
theorem wd_n {n : Nat} (hn : n = 2 ∨ n = 3) : Wds (wHeads.take n) ∧ No33 (wHeads.take n) := by
 rcases hn with rfl | rfl
 ·exact ⟨wdH2, no33H2⟩
 ·exact ⟨wdH3, no33H3⟩
theorem catL_noword {s : ByteArray} {k a : Nat} {m n : Nat} (ls : List S41) (lf : List S43) (e : scW s (wHeads.take n) (a, false) = (-1, (k, true))) : (catL s (m + 1) n ls lf (a, false)).2.2 = (k, true) := by
 rw [catL, if_neg (show ¬ ((a, false) : Sc).2 = true from Bool.false_ne_true), e]
 dsimp only
 rw [if_neg (by decide), if_neg (by decide), if_neg (by decide), catL_bad rfl]
theorem scW_lt {s : ByteArray} {l : List ByteArray} {a b : Nat} {j : Int} (e : scW s l (a, false) = (j, (b, false))) : a < b := by
 rcases scW_cases s l (a, false) with ⟨h, _⟩ | ⟨_, _, h, _⟩
 ·rw [e] at h; exact ff' h
 ·rw [e] at h; exact h
theorem cutL {s : ByteArray} {k : Nat} : ∀ (m n : Nat) (S : List S41) (F : List S43) (ls : List S41) (lf : List S43) (a : Nat), (n = 2 ∧ S = [] ∨ n = 3) → S.all seB = true → F.all feB = true →
  Cut s k a ((S.map seaL).flatten ++ ((F.map feaL).flatten ++ endL)) → s.size - a + 1 ≤ m → (catL s m n ls lf (a, false)).2.2 = (k, true)
 | 0, n, S, F, ls, lf, a, hn, hS, hF, h, hm => by omega
 | m + 1, n, S, F, ls, lf, a, hn, hS, hF, h, hm => by
  have hst := h.stuck
  have hn' : n = 2 ∨ n = 3 := by rcases hn with ⟨h, _⟩ | h; exact .inl h; exact .inr h
  obtain ⟨hH, h33⟩ := wd_n hn'
  have hlen : 2 ≤ (wHeads.take n).length := by rcases hn' with rfl | rfl <;> decide
  have g0 : ∀ h : 0 < (wHeads.take n).length, (wHeads.take n)[0] = bEnd := by rcases hn' with rfl | rfl <;> exact fun _ => rfl
  have g1 : ∀ h : 1 < (wHeads.take n).length, (wHeads.take n)[1] = bFeast := by rcases hn' with rfl | rfl <;> exact fun _ => rfl
  cases S with
  | cons z S =>
   have h3 : n = 3 := by
    rcases hn with ⟨_, h⟩ | h
    ·exact absurd h (by simp)
    ·exact h
   subst h3
   rw [List.all_cons, Bool.and_eq_true] at hS
   have h' := h
   rw [List.map_cons, List.flatten_cons, seaL, seaW, List.cons_append, lineL_tl, List.append_assoc, List.append_assoc, List.append_assoc] at h'
   rcases cutW (l := wHeads.take 3) (j := 2) hH h33 (by decide) h' with e | ⟨b, e, q⟩
   ·exact catL_noword ls lf e
   ·have hab := scW_lt e
    have hbs := q.le
    rw [catL, if_neg (show ¬ ((a, false) : Sc).2 = true from Bool.false_ne_true), e]
    dsimp only
    rw [if_neg (by decide), if_neg (by decide), if_pos (by decide)]
    rcases cutS hS.1 q with d | ⟨c, e2, q2⟩
    ·exact catL_dead hst (by omega) (.inr rfl) _ _ d
    ·have hbc := pcS_ge s (b, false)
     rw [e2] at hbc
     have hcs := q2.le
     rw [e2]
     exact cutL m 3 S F _ lf c (.inr rfl) hS.2 hF q2 (by dsimp only at hbc; omega)
  | nil =>
   cases F with
   | cons z F =>
    rw [List.all_cons, Bool.and_eq_true] at hF
    have h' := h
    rw [List.map_nil, List.flatten_nil, List.nil_append, List.map_cons, List.flatten_cons, feaL, feaW, List.cons_append, lineL_tl, List.append_assoc, List.append_assoc, List.append_assoc] at h'
    have hk : 1 < (wHeads.take n).length := by omega
    rcases cutW (l := wHeads.take n) (j := 1) hH h33 hk (by rw [g1 hk]; exact h') with e | ⟨b, e, q⟩
    ·exact catL_noword ls lf e
    ·have hab := scW_lt e
     have hbs := q.le
     rw [catL, if_neg (show ¬ ((a, false) : Sc).2 = true from Bool.false_ne_true), e]
     dsimp only
     rw [if_neg (by decide), if_pos (by decide)]
     rcases cutF hF.1 q with d | ⟨c, e2, q2⟩
     ·exact catL_dead hst (by omega) (.inl rfl) _ _ d
     ·have hbc := pcF_ge s (b, false)
      rw [e2] at hbc
      have hcs := q2.le
      rw [e2]
      exact cutL m 2 [] F ls _ c (.inl ⟨rfl, rfl⟩) rfl hF.2 q2 (by dsimp only at hbc; omega)
   | nil =>
    have h' : Cut s k a (bEnd.data.toList ++ ([10] ++ [])) := h
    have hk : 0 < (wHeads.take n).length := by omega
    rcases cutW (l := wHeads.take n) (j := 0) hH h33 hk (by rw [g0 hk]; exact h') with e | ⟨b, e, q⟩
    ·exact catL_noword ls lf e
    ·rw [catL, if_neg (show ¬ ((a, false) : Sc).2 = true from Bool.false_ne_true), e]
     dsimp only
     rw [if_pos (by decide)]
     rcases cutNl q with e2 | ⟨c, e2, q2⟩
     ·rw [e2]
      dsimp only
      rw [scE_bad rfl]
     ·rw [e2]
      obtain ⟨v, w, x, r1, r2, r3, r4, r5⟩ := q2
      obtain ⟨rfl, rfl⟩ := List.append_eq_nil_iff.1 r1.symm
      have hx : x ≠ [] := by
       rcases r5 with r5 | r5
       ·exact absurd rfl r5
       ·exact r5
      have hl := r2.len
      rw [List.nil_append] at hl
      have hxl := List.length_pos_iff.2 hx
      rw [List.length_nil, Nat.add_zero] at r3
      subst r3
      dsimp only
      unfold scE
      rw [if_neg (show ¬ ((k, false) : Sc).2 = true from Bool.false_ne_true)]
      dsimp only
      rw [decide_eq_false (by omega)]
      rfl
theorem cutCat {fr : Int} {ls : List S41} {lf : List S43} (h : prB fr ls lf = true) {s : ByteArray} {k : Nat} (hc : Cut s k 0 (catT fr ls lf)) : catP s = (0, [], [], (k : Int), 6) := by
 simp only [prB, Bool.and_eq_true] at h
 obtain ⟨h1, h2, h3⟩ := h
 have hst := hc.stuck
 have e0 : catT fr ls lf = (wHead[0]).data.toList ++ (tl [numB fr] ++ ([10] ++ ((ls.map seaL).flatten ++ ((lf.map feaL).flatten ++ endL)))) := by
  unfold catT topL
  rw [lineL_tl, lineL_tl]
  simp [tl, wHead]
 rw [e0] at hc
 have key : (pcCat s (0, false)).2.2.2 = (k, true) := by
  unfold pcCat
  dsimp only
  rcases cutW (j := 0) wdHead no33Head (by decide) hc with e | ⟨b, e, q⟩
  ·rw [e]
   dsimp only
   rw [deadPN hst (y := (k, true)) rfl, scW_bad rfl, catL_bad rfl]
  ·rw [e]
   dsimp only
   rcases cutPN h3 q with d | ⟨b2, e2, q2⟩
   ·rw [deadW hst wdNl no33Nl d]
    dsimp only
    rw [catL_bad rfl]
   ·rw [e2]
    dsimp only
    rcases cutNl q2 with e3 | ⟨b3, e3, q3⟩
    ·rw [e3]
     dsimp only
     rw [catL_bad rfl]
    ·rw [e3]
     exact cutL (s.size + 2) 3 ls lf [] [] b3 (.inr rfl) h1 h2 q3 (by omega)
 unfold catP
 rw [key]
 exact if_pos rfl
end Go.Proofs.YtlfokdbnbmebiaaDoor.Q
end
section
namespace Go.Proofs.YtlfokdbnbmebiaaDoor.Q
open Go.RowKit Go.Proofs.YtlfokdbnbmebiaaDoorW.PrintWords Go.Proofs.YtlfokdbnbmebiaaDoorW.PrintLast
set_option maxRecDepth 100000
def no10 (l : List UInt8) : Prop := (10 : UInt8) ∉ l
instance (l : List UInt8) : Decidable (no10 l) := by unfold no10; infer_instance
theorem cat_last (fr : Int) (ls : List S41) (lf : List S43) : ∃ X, catT fr ls lf = X ++ [10] := ⟨_, by unfold catT endL lineL; rw [← List.append_assoc]⟩
end Go.Proofs.YtlfokdbnbmebiaaDoor.Q
end
section
namespace Go.Proofs.YtlfokdbnbmebiaaDoor.Q
open Go.RowKit Go.Proofs.YtlfokdbnbmebiaaDoorW.PrintWords Go.Proofs.YtlfokdbnbmebiaaDoorW.PrintLast
set_option maxRecDepth 100000
theorem cat_small2 {fr : Int} {ls : List S41} {lf : List S43} (h : okC fr ls lf) (h1 : ls.length ≤ 30) (h2 : lf.length ≤ 60) : (catT fr ls lf).length ≤ 950000000 := by
 obtain ⟨g1, g2, g3, g4, g5⟩ := h
 have a1 := topL_le g1
 have a2 := flat_le seaL 10000000 ls (fun y hy => seaL_le (g4 y hy))
 have a6 := flat_le feaL 10000000 lf (fun y hy => feaL_le (g5 y hy))
 have a5 : lf.length * 10000000 ≤ 60 * 10000000 := Nat.mul_le_mul_right _ h2
 have a7 : ls.length * 10000000 ≤ 30 * 10000000 := Nat.mul_le_mul_right _ h1
 have a8 : endL.length = 4 := by rfl
 unfold catT
 rw [List.length_append, List.length_append, List.length_append]
 omega
theorem tmodN (m n : Nat) : Int.tmod (m : Int) (n : Int) = ((m % n : Nat) : Int) := rfl
theorem ex_list (T : ByteArray) (a b : Nat) : (T.extract a b).data.toList = (T.data.toList.drop a).take (b - a) := by
 rw [ByteArray.data_extract, Array.toList_extract, List.extract]
theorem restAll (s : ByteArray) : Rest s 0 s.data.toList := ⟨Nat.zero_le _, rfl⟩
end Go.Proofs.YtlfokdbnbmebiaaDoor.Q
namespace Go.Proofs.YtlfokdbnbmebiaaDoor.Pure
open Go.RowKit Go.Proofs.YtlfokdbnbmebiaaDoorW.PrintWords Go.Proofs.YtlfokdbnbmebiaaDoorW.PrintLast Go.Proofs.YtlfokdbnbmebiaaDoor.Q
theorem CattextOffsets : Q.computuslaw26_CattextOffsets.Pure := by
 intro fr ls lf a1 hfr hls hws hlf hwf ha
 refine Ev.rounds (g := fun k => computuslaw26_CattextOffsets.f k fr ls lf a1) ?_
 have out : ∀ b, b = true → Ev (fun k => computuslaw26_CattextOffsets.j0 k a1 b fr ls lf) true := fun b hb =>
  Ev.step (fun k => computuslaw26_CattextOffsets.j0.eq_2 ..) (Ev.congr (fun k => (if_pos hb).trans (by rw [aw26]; rfl)) (Ev.now true))
 unfold computuslaw26_CattextOffsets.f
 rw [aw26]
 show Ev (fun k => (computuslaw26_few.f fr ls lf).bind fun t => if t = true then ((computusref26_Printable.f k fr ls lf).bind fun p => computuslaw26_CattextOffsets.j0 k a1 (!p) fr ls lf) else computuslaw26_CattextOffsets.j0 k a1 true fr ls lf) true
 have hfew : computuslaw26_few.f fr ls lf = some (decide (ls.length ≤ 30) && decide (lf.length ≤ 60)) := by
  unfold computuslaw26_few.f
  by_cases h : ls.length ≤ 30
  ·rw [if_pos (by omega)]; simp [h]
   omega
  ·rw [if_neg (by omega)]; simp [h]
 rw [hfew]
 by_cases h30 : ls.length ≤ 30 ∧ lf.length ≤ 60
 ·rw [decide_eq_true h30.1, decide_eq_true h30.2]
  show Ev (fun k => (computusref26_Printable.f k fr ls lf).bind fun p => computuslaw26_CattextOffsets.j0 k a1 (!p) fr ls lf) true
  refine Ev.bind (pr_ev fr ls lf (by omega) (by omega)) ?_
  cases hp : prB fr ls lf with
  | false => exact out _ rfl
  | true =>
   have hok := prB_ok hp (by omega) (by omega)
   have hsm := cat_small2 hok h30.1 h30.2
   have hpr := rPrint hp (show ls.length ≤ 1000000 by omega) (show lf.length ≤ 1000000 by omega)
   obtain ⟨X, hX⟩ := cat_last fr ls lf
   have hL : 0 < (catT fr ls lf).length := by rw [hX]; simp
   obtain ⟨T, hT⟩ : ∃ T : ByteArray, T = ⟨(catT fr ls lf).toArray⟩ := ⟨_, rfl⟩
   rw [← hT] at hpr
   have hTd : T.data.toList = catT fr ls lf := by rw [hT]
   have hTs : T.size = (catT fr ls lf).length := by rw [← dl_len, hTd]
   clear hT
   have ha1 : 0 ≤ a1 ∧ a1 ≤ 65535 := by
    simp [Lit.wf] at ha
    have m1 : IntKind.u16.min = 0 := rfl
    have m2 : IntKind.u16.max = 65535 := rfl
    omega
   obtain ⟨m, rfl⟩ : ∃ m : Nat, a1 = (m : Int) := ⟨a1.toNat, by omega⟩
   have hw : wrap64 (m : Int) = (m : Int) := by unfold wrap64; omega
   have hkn : m % T.size < T.size := Nat.mod_lt _ (by omega)
   refine Ev.step (fun k => computuslaw26_CattextOffsets.j0.eq_2 ..) (Ev.congr (fun k => if_neg (by decide)) ?_)
   rw [hw]
   refine Ev.bind hpr ?_
   rw [tmodN]
   generalize m % T.size = q at hkn
   have hw2 : wrap64 ((q : Int) + 1) = ((q + 1 : Nat) : Int) := wN q (by omega)
   rw [hw2, Int.toNat_natCast, Int.toNat_natCast]
   -- the three texts
   have d1 : (T.extract 0 q).data.toList = (catT fr ls lf).take q := by rw [ex_list, hTd, List.drop_zero, Nat.sub_zero]
   have d2 : (((T.extract 0 q) ++ (⟨#[33]⟩ : ByteArray)) ++ (T.extract (q + 1) T.size)).data.toList = (catT fr ls lf).take q ++ (33 :: (catT fr ls lf).drop (q + 1)) := by
    have e : ((catT fr ls lf).drop (q + 1)).take (T.size - (q + 1)) = (catT fr ls lf).drop (q + 1) := List.take_of_length_le (by rw [List.length_drop]; omega)
    rw [dl_app, dl_app, d1, ex_list, hTd, e]
    simp
   have d3 : (T ++ (⟨#[33]⟩ : ByteArray)).data.toList = catT fr ls lf ++ [33] := by rw [dl_app, hTd]
   have lt : ((catT fr ls lf).take q).length = q := by rw [List.length_take]; omega
   have hdne : (catT fr ls lf).drop q ≠ [] := fun h => by
    have := congrArg List.length h
    rw [List.length_drop, List.length_nil] at this
    omega
   have c1 : Cut (T.extract 0 q) q 0 (catT fr ls lf) := ⟨(catT fr ls lf).take q, (catT fr ls lf).drop q, [], (List.take_append_drop _ _).symm, by rw [List.append_nil, ← d1]; exact restAll _, by omega, .inl rfl, .inl hdne⟩
   have c2 : Cut (((T.extract 0 q) ++ (⟨#[33]⟩ : ByteArray)) ++ (T.extract (q + 1) T.size)) q 0 (catT fr ls lf) := ⟨(catT fr ls lf).take q, (catT fr ls lf).drop q, 33 :: (catT fr ls lf).drop (q + 1), (List.take_append_drop _ _).symm, by rw [← d2]; exact restAll _, by omega, .inr ⟨_, rfl⟩, .inl hdne⟩
   have c3 : Cut (T ++ (⟨#[33]⟩ : ByteArray)) T.size 0 (catT fr ls lf) := ⟨catT fr ls lf, [], [33], (List.append_nil _).symm, by rw [← d3]; exact restAll _, by omega, .inr ⟨_, rfl⟩, .inr (by simp)⟩
   have z1 : (T.extract 0 q).size = q := by rw [← dl_len, d1, lt]
   have z2 : (((T.extract 0 q) ++ (⟨#[33]⟩ : ByteArray)) ++ (T.extract (q + 1) T.size)).size = T.size := by
    rw [← dl_len, d2, List.length_append, lt, List.length_cons, List.length_drop]; omega
   have z3 : (T ++ (⟨#[33]⟩ : ByteArray)).size = T.size + 1 := by rw [ByteArray.size_append]; rfl
   have z4 : (T.extract (q + 1) T.size).size = T.size - (q + 1) := by rw [ByteArray.size_extract]; omega
   have z5 : ((T.extract 0 q) ++ (⟨#[33]⟩ : ByteArray)).size = q + 1 := by rw [ByteArray.size_append, z1]; rfl
   have p1 : cattext_Parse.f (T.extract 0 q) = some (0, [], [], (q : Int), 6) := by
    refine (if_pos (by omega)).trans ?_
    rw [cutCat hp c1]
   have p2 : cattext_Parse.f (((T.extract 0 q) ++ (⟨#[33]⟩ : ByteArray)) ++ (T.extract (q + 1) T.size)) = some (0, [], [], (q : Int), 6) := by
    refine (if_pos (by omega)).trans ?_
    rw [cutCat hp c2]
   have p3 : cattext_Parse.f (T ++ (⟨#[33]⟩ : ByteArray)) = some (0, [], [], (T.size : Int), 6) := by
    refine (if_pos (by omega)).trans ?_
    rw [cutCat hp c3]
   rw [p1, p2, p3]
   simp only [Option.bind_some, z1, z4, z5]
   refine Ev.congr (fun k => if_neg (by omega)) ?_
   refine Ev.congr (fun k => if_pos (by omega)) ?_
   refine Ev.congr (fun k => if_pos (by omega)) ?_
   refine Ev.congr (fun k => if_pos (by omega)) ?_
   refine Ev.congr (fun k => if_pos (by omega)) ?_
   refine Ev.congr (fun k => if_pos (by omega)) ?_
   refine Ev.congr (fun k => if_pos (by omega)) ?_
   refine Ev.congr (fun k => if_pos (by omega)) ?_
   simp only [if_true, beq_self_eq_true]
   exact Ev.now _
 ·have e : (decide (ls.length ≤ 30) && decide (lf.length ≤ 60)) = false := by
   rcases Nat.lt_or_ge 30 ls.length with h | h
   ·simp; omega
   ·simp; omega
  rw [e]
  exact out true rfl
end Go.Proofs.YtlfokdbnbmebiaaDoor.Pure
end
section
namespace Go.Proofs.YtlfokdbnbmebiaaDoor.cattextCanonical
open Go.ChangeShapes Go.WideShapes Go.ChangeAt Go.RowKit Go.Proofs.YtlfokdbnbmebiaaDoorW.PrintWords Go.Proofs.YtlfokdbnbmebiaaDoor.Q
open Go.ChangeMaps (open_string shut_string)
theorem own : ownKnob Tryd.prog.godebug = none := by kernel_rfl
theorem laidOut : laidOutB Tryd.prog = true := by kernel_rfl
theorem door_met (os : Os) (args : Array Value) : laidMetH Tryd.prog Rows.cattextCanonicalRow.laid ((World.doorLaid Tryd.prog 400 os).forCall (fun _ _ => 0) ⟨#[], args, []⟩).memory :=
 laidMetH_of_parts3 (fuel := 8) (laidMet_of_run' 8 (by kernel_rfl) (by kernel_rfl)) (by kernel_rfl) (by kernel_rfl)
theorem lifted (os : Os) (started : os.Started) (H : Type) (enc : TypeId × Value → H) :
  ReturnsInHanded {} Tryd.checked os 4 .any (fun w args => (Rows.cattextCanonicalSpec.pre enc Tryd.prog Tryd.f4 [] false w args ∧ laidMetH Tryd.prog Rows.cattextCanonicalRow.laid w) ∧ sizedMet enc Tryd.prog Tryd.f4 (OpenSpec.ofChange Rows.cattextCanonicalSpec) false w args) (Rows.cattextCanonicalSpec.post enc Tryd.prog Tryd.f4 false true false false) := by
 refine returnsInHanded_of_change_and (C := Tryd.checked) (X := fun w _ => laidMetH Tryd.prog Rows.cattextCanonicalRow.laid w) (fun _ _ _ hh h => h.of_heap hh) own started (by kernel_rfl) Tryd.func4
  (ChangeSpec.witness_shaped (enc := enc) (C := Tryd.checked) (os := os) (X := fun w _ => laidMetH Tryd.prog Rows.cattextCanonicalRow.laid w) false (World.doorLaid Tryd.prog 400 os) #[.agg #[.int .i64 0, .slice none 0 0, .slice none 0 0]] 8 rfl (World.shaped_of_RefB (by kernel_rfl) (by kernel_rfl)) (by kernel_rfl) (by kernel_rfl) (by kernel_rfl) (door_met os _)) ?_
 intro W base args ds gs before hval0 hW hcnd hsz0 hL _
 have hsz : (DataW.weightsEach Tryd.prog (Tryd.f4.params.toList ++ Rows.cattextCanonicalSpec.plain.varTypes Tryd.prog) (ds ++ gs)).all (· ≤ reachBytes) = true := hsz0
 have hval : ∀ (j : Nat) t v, Tryd.f4.params[j]? = some t → args[j]? = some v → Value.okWide Tryd.prog W .any base t v := hval0
 have hW' := hW
 obtain ⟨p, q, hA0, hV, rfl, hfz, hnd⟩ := hW
 have hA : DataW.TrodAll enc Tryd.prog W 0 (fun _ => true) true Tryd.f4.params.toList args.toList ds p := hA0
 rw [Tryd.params4] at hA hval hsz
 obtain ⟨v0, vs0, d0, ds0, p0, q0, hargs, rfl, rfl, h0, r0⟩ := trodAll_cons hA
 obtain ⟨rfl, rfl, rfl⟩ := trodAll_nil r0
 obtain rfl : args = #[v0] := by cases args; simp_all
 obtain ⟨rfl, rfl⟩ := trodVars_none hV
 have k0 := h0
 have lt0 : ∀ x ∈ p0, x.block < W.heap.size := by obtain ⟨m, hm⟩ := k0; exact DataW.trod_lt m _ _ _ hm
 obtain ⟨cs0, x0, rfl, hK0, hw0⟩ := open_struct Tryd.underlying26 op26 (hval 0 26 v0 rfl rfl) h0
 obtain ⟨A0_1, c0_1, A0_2, c0_2, rfl, hc0_1, hr0_1, hc0_2, hr0_2⟩ := k26_open hK0
 clear hA0 hval0 hsz0 hsz
 obtain ⟨k, hf⟩ := Pure.CattextCanonical x0.f0 x0.f1 x0.f2 hw0.1 hw0.2.1.1 hw0.2.1.2 hw0.2.2.1 hw0.2.2.2
 refine (Q.computuslaw26_CattextCanonical.calls (k := k) (w := W) (r := true) (hr0_1 := hr0_1) (hc0_1 := hc0_1) (hr0_2 := hr0_2) (hc0_2 := hc0_2) (hT := tabs_row hL) (h := hf)).mono fun e W' ⟨he, hd⟩ => ?_
 subst he
 have bel : Below W.heap.size W W' := hd
 exact ⟨_, rfl, _, _, _, [], _, [], hW', trodAll_mk1 (shut_bool Tryd.underlying4 _), (trodAll_cons_mk (Below.trod laidOut (by kernel_rfl) (of_decide_eq_true (by kernel_rfl)) k0 bel lt0) trodAll_mk0), rfl, bel.frame _, fun h => by cases h⟩
theorem over : Rows.cattextCanonicalRow.holds Tryd.pinned (OpenSpec.ofChange Rows.cattextCanonicalSpec) :=
 OpenClaim.holds_of_wide 4 Tryd.f4 rfl rfl rfl rfl rfl rfl rfl ⟨rfl, rfl, rfl, rfl, rfl⟩ rfl rfl rfl rfl rfl (by kernel_rfl) Tryd.func4 (by kernel_rfl)
  (of_decide_eq_true (by kernel_rfl)) (by unfold Func.isWrapper; first | (rw [if_pos (by decide +kernel)]; kernel_rfl) | (rw [if_neg (by decide +kernel)]; exact ⟨rfl, rfl⟩))
  (fun os started H enc _ => lifted os started H enc)
theorem proved : Rows.CattextCanonicalCardSaid :=
 Claim7.holds_tied_plain_at .later [] [.data, .data, .data, .data, .widerDeep] true (true, "2a6c92cb85acc9c4eb9b9923b53504cd6864475a65d70bdc3c8a4d55023f26dc") true
  over (fun _ h => by cases h) (by kernel_rfl) (fun _ h => by cases h) cattextCanonical_row_tie rfl ⟨rfl, rfl⟩ (by kernel_rfl) rfl
  (fun f fn hf hfn => by
   obtain rfl : f = 4 := Option.some.inj ((show Tryd.prog.funcNamed "computus/computuslaw26.CattextCanonical" = some 4 by kernel_rfl).symm.trans hf) |>.symm
   obtain rfl : fn = Tryd.f4 := (Option.some.inj (Tryd.func4.symm.trans hfn)).symm
   exact ⟨by kernel_rfl, fun j t ht => by
    rw [Tryd.params4] at ht
    have hm : t ∈ [26] := by simpa using Array.mem_of_getElem? ht
    have hall : ([26].all fun u => !Tryd.prog.wantsStandIn u) = true := by kernel_rfl
    exact (show Tryd.prog.wantsStandIn t = false by simpa using List.all_eq_true.1 hall t hm)⟩)
  (by kernel_rfl)
#print axioms proved
end Go.Proofs.YtlfokdbnbmebiaaDoor.cattextCanonical
namespace Go.Proofs.YtlfokdbnbmebiaaDoor
theorem cattextCanonical_holds : Rows.CattextCanonicalCardSaid := cattextCanonical.proved
end Go.Proofs.YtlfokdbnbmebiaaDoor
end
section
namespace Go.Proofs.YtlfokdbnbmebiaaDoor.cattextOffsets
open Go.ChangeShapes Go.WideShapes Go.ChangeAt Go.RowKit Go.Proofs.YtlfokdbnbmebiaaDoorW.PrintWords Go.Proofs.YtlfokdbnbmebiaaDoor.Q
open Go.ChangeMaps (open_string shut_string)
theorem own : ownKnob Tryd.prog.godebug = none := by kernel_rfl
theorem laidOut : laidOutB Tryd.prog = true := by kernel_rfl
theorem door_met (os : Os) (args : Array Value) : laidMetH Tryd.prog Rows.cattextOffsetsRow.laid ((World.doorLaid Tryd.prog 400 os).forCall (fun _ _ => 0) ⟨#[], args, []⟩).memory :=
 laidMetH_of_parts3 (fuel := 8) (laidMet_of_run' 8 (by kernel_rfl) (by kernel_rfl)) (by kernel_rfl) (by kernel_rfl)
theorem lifted (os : Os) (started : os.Started) (H : Type) (enc : TypeId × Value → H) :
  ReturnsInHanded {} Tryd.checked os 6 .any (fun w args => (Rows.cattextOffsetsSpec.pre enc Tryd.prog Tryd.f6 [] false w args ∧ laidMetH Tryd.prog Rows.cattextOffsetsRow.laid w) ∧ sizedMet enc Tryd.prog Tryd.f6 (OpenSpec.ofChange Rows.cattextOffsetsSpec) false w args) (Rows.cattextOffsetsSpec.post enc Tryd.prog Tryd.f6 false true false false) := by
 refine returnsInHanded_of_change_and (C := Tryd.checked) (X := fun w _ => laidMetH Tryd.prog Rows.cattextOffsetsRow.laid w) (fun _ _ _ hh h => h.of_heap hh) own started (by kernel_rfl) Tryd.func6
  (ChangeSpec.witness_shaped (enc := enc) (C := Tryd.checked) (os := os) (X := fun w _ => laidMetH Tryd.prog Rows.cattextOffsetsRow.laid w) false (World.doorLaid Tryd.prog 400 os) #[.agg #[.int .i64 0, .slice none 0 0, .slice none 0 0], .int .u16 0] 8 rfl (World.shaped_of_RefB (by kernel_rfl) (by kernel_rfl)) (by kernel_rfl) (by kernel_rfl) (by kernel_rfl) (door_met os _)) ?_
 intro W base args ds gs before hval0 hW hcnd hsz0 hL _
 have hsz : (DataW.weightsEach Tryd.prog (Tryd.f6.params.toList ++ Rows.cattextOffsetsSpec.plain.varTypes Tryd.prog) (ds ++ gs)).all (· ≤ reachBytes) = true := hsz0
 have hval : ∀ (j : Nat) t v, Tryd.f6.params[j]? = some t → args[j]? = some v → Value.okWide Tryd.prog W .any base t v := hval0
 have hW' := hW
 obtain ⟨p, q, hA0, hV, rfl, hfz, hnd⟩ := hW
 have hA : DataW.TrodAll enc Tryd.prog W 0 (fun _ => true) true Tryd.f6.params.toList args.toList ds p := hA0
 rw [Tryd.params6] at hA hval hsz
 obtain ⟨v0, vs0, d0, ds0, p0, q0, hargs, rfl, rfl, h0, r0⟩ := trodAll_cons hA
 obtain ⟨v1, vs1, d1, ds1, p1, q1, rfl, rfl, rfl, h1, r1⟩ := trodAll_cons r0
 obtain ⟨rfl, rfl, rfl⟩ := trodAll_nil r1
 obtain rfl : args = #[v0, v1] := by cases args; simp_all
 obtain ⟨rfl, rfl⟩ := trodVars_none hV
 have k0 := h0
 have lt0 : ∀ x ∈ p0, x.block < W.heap.size := by obtain ⟨m, hm⟩ := k0; exact DataW.trod_lt m _ _ _ hm
 obtain ⟨cs0, x0, rfl, hK0, hw0⟩ := open_struct Tryd.underlying26 op26 (hval 0 26 v0 rfl rfl) h0
 obtain ⟨A0_1, c0_1, A0_2, c0_2, rfl, hc0_1, hr0_1, hc0_2, hr0_2⟩ := k26_open hK0
 obtain ⟨a1, rfl, rfl, rfl, w1⟩ := open_int Tryd.underlying36 (hval 1 36 v1 rfl rfl) h1
 clear hA0 hval0 hsz0 hsz
 obtain ⟨k, hf⟩ := Pure.CattextOffsets x0.f0 x0.f1 x0.f2 a1 hw0.1 hw0.2.1.1 hw0.2.1.2 hw0.2.2.1 hw0.2.2.2 w1
 refine (Q.computuslaw26_CattextOffsets.calls (k := k) (w := W) (r := true) (hr0_1 := hr0_1) (hc0_1 := hc0_1) (hr0_2 := hr0_2) (hc0_2 := hc0_2) (hT := tabs_row hL) (h := hf)).mono fun e W' ⟨he, hd⟩ => ?_
 subst he
 have bel : Below W.heap.size W W' := hd
 exact ⟨_, rfl, _, _, _, [], _, [], hW', trodAll_mk1 (shut_bool Tryd.underlying4 _), (trodAll_cons_mk (Below.trod laidOut (by kernel_rfl) (of_decide_eq_true (by kernel_rfl)) k0 bel lt0) (trodAll_cons_mk (shut_int Tryd.underlying36 w1) trodAll_mk0)), rfl, bel.frame _, fun h => by cases h⟩
theorem over : Rows.cattextOffsetsRow.holds Tryd.pinned (OpenSpec.ofChange Rows.cattextOffsetsSpec) :=
 OpenClaim.holds_of_wide 6 Tryd.f6 rfl rfl rfl rfl rfl rfl rfl ⟨rfl, rfl, rfl, rfl, rfl⟩ rfl rfl rfl rfl rfl (by kernel_rfl) Tryd.func6 (by kernel_rfl)
  (of_decide_eq_true (by kernel_rfl)) (by unfold Func.isWrapper; first | (rw [if_pos (by decide +kernel)]; kernel_rfl) | (rw [if_neg (by decide +kernel)]; exact ⟨rfl, rfl⟩))
  (fun os started H enc _ => lifted os started H enc)
theorem proved : Rows.CattextOffsetsCardSaid :=
 Claim7.holds_tied_plain_at .later [] [.data, .data, .data, .data, .widerDeep] true (true, "2a6c92cb85acc9c4eb9b9923b53504cd6864475a65d70bdc3c8a4d55023f26dc") true
  over (fun _ h => by cases h) (by kernel_rfl) (fun _ h => by cases h) cattextOffsets_row_tie rfl ⟨rfl, rfl⟩ (by kernel_rfl) rfl
  (fun f fn hf hfn => by
   obtain rfl : f = 6 := Option.some.inj ((show Tryd.prog.funcNamed "computus/computuslaw26.CattextOffsets" = some 6 by kernel_rfl).symm.trans hf) |>.symm
   obtain rfl : fn = Tryd.f6 := (Option.some.inj (Tryd.func6.symm.trans hfn)).symm
   exact ⟨by kernel_rfl, fun j t ht => by
    rw [Tryd.params6] at ht
    have hm : t ∈ [26, 36] := by simpa using Array.mem_of_getElem? ht
    have hall : ([26, 36].all fun u => !Tryd.prog.wantsStandIn u) = true := by kernel_rfl
    exact (show Tryd.prog.wantsStandIn t = false by simpa using List.all_eq_true.1 hall t hm)⟩)
  (by kernel_rfl)
#print axioms proved
end Go.Proofs.YtlfokdbnbmebiaaDoor.cattextOffsets
namespace Go.Proofs.YtlfokdbnbmebiaaDoor
theorem cattextOffsets_holds : Rows.CattextOffsetsCardSaid := cattextOffsets.proved
end Go.Proofs.YtlfokdbnbmebiaaDoor
end
