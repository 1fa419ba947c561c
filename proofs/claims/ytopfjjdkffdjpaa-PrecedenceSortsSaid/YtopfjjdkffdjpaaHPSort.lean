/- What is proved: slices.Clone of candidates and precedence.Sort, in the print's form. -/
import Derived.Test.YtopfjjdkffdjpaaHPrec
import Derived.Lib.SliceRun
import Derived.Lib.Walk
namespace Go.Proofs.Ytopfjjdkffdjpaa.Q
open Go.RowKit Go.Proofs.YtopfjjdkffdjpaaW.PrintWords Go.Proofs.YtopfjjdkffdjpaaW.PrintLast Go.Proofs.YtopfjjdkffdjpaaW.PrintMore Go.Proofs.Ytopfjjdkffdjpaa.Srt
set_option linter.unusedVariables false
set_option linter.unusedSimpArgs false

theorem flat_get : ∀ (l : List Cd) (j i : Nat), i < 4 → (l.flatMap cand)[j * 4 + i]? = (l[j]?).bind fun x => (cand x)[i]?
  | [], j, i, _ => by simp
  | x :: l, 0, i, hi => by
    have : (cand x).length = 4 := rfl
    rw [List.flatMap_cons, List.getElem?_append_left (by omega)]
    simp
  | x :: l, j + 1, i, hi => by
    have h4 : (cand x).length = 4 := rfl
    rw [List.flatMap_cons, List.getElem?_append_right (by omega), show (j + 1) * 4 + i - (cand x).length = j * 4 + i by omega, flat_get l j i hi]
    simp
theorem flat_len (l : List Cd) : (l.flatMap cand).length = l.length * 4 := by
  induction l with
  | nil => rfl
  | cons x l ih => rw [List.flatMap_cons, List.length_append, ih, List.length_cons]; have : (cand x).length = 4 := rfl; omega
/-- What a row of candidates' cells say. -/
theorem row_news {w : World} {A : Option Addr} {l : List Cd} {ad : Addr} (h : Kd.C k28 w A l.length l) (hA : A = some ad) (q : Nat) (u : Value) (hq : (l.flatMap cand)[q]? = some u) : w.cell? (ad.add q) = some u := by
  have hlt : q < l.length * 4 := by
    have := (List.getElem?_eq_some_iff.1 hq).1
    rwa [flat_len] at this
  obtain ⟨ad2, e2, hc⟩ := h.2.2 (by omega)
  rw [hA] at e2
  obtain rfl := Option.some.inj e2
  have e : q = q / 4 * 4 + q % 4 := by omega
  rw [e, flat_get l (q / 4) (q % 4) (by omega)] at hq
  have hj : q / 4 < l.length := by omega
  rw [List.getElem?_eq_getElem hj] at hq
  obtain ⟨c, hs, hr, hcell⟩ := hc (q / 4) _ (List.getElem?_eq_getElem hj)
  have ec := k28_open hr
  have := hcell (q % 4) u (by rw [ec]; exact hq)
  rw [e]
  exact this
theorem flat_one (l : List Cd) : ∀ u ∈ l.flatMap cand, u.oneCell' = true := by
  intro u hu
  obtain ⟨x, _, hx⟩ := List.mem_flatMap.1 hu
  simp only [cand, List.mem_cons, List.not_mem_nil, or_false] at hx
  rcases hx with rfl | rfl | rfl | rfl <;> rfl
theorem PSt.of_own {w0 w : World} {B g c : Nat} {l : List Cd} {cur : Array Value} (hg : B ≤ g) (hh : w.heap[g]? = some (.cells cur 28 (0, 0))) (hn : l.length ≤ c) (hc : c ≤ maxLen) (hs : cur.size = c * 4) (ht : cur.toList.take (l.length * 4) = l.flatMap cand) (hb : Below B w0 w) : PSt g c B l.length w0 l w := by
  refine ⟨⟨cur, hh, hs, fun i x hx => ?_⟩, rfl, hn, hc, hg, hb⟩
  have hi : i < l.length := (List.getElem?_eq_some_iff.1 hx).1
  have key : ∀ a, a < 4 → cur[i * 4 + a]? = (cand x)[a]? := fun a ha => by
    have h1 := flat_get l i a ha
    rw [← ht, List.getElem?_take_of_lt (by omega), hx] at h1
    rw [← Array.getElem?_toList]
    exact h1
  exact ⟨key 0 (by omega), key 1 (by omega), key 2 (by omega), key 3 (by omega)⟩
set_option maxHeartbeats 4000000 in
set_option maxRecDepth 100000 in
theorem clone_some (ad : Addr) (c0 : Nat) (l : List Cd) (w : World) (hr : Kd.C k28 w (some ad) l.length l) (hb : l.length ≤ 1000000000) :
    Calls Try.prog 29 #[.slice (some ad) l.length c0] w fun e w' => ∃ g c, e = .returned (.slice (some ⟨g, 0, none⟩) l.length c) ∧ PSt g c w.heap.size l.length w l w' := by
  have HN := Aside0.mk (fun q u => row_news hr rfl q u)
  obtain ⟨i0, hi0, hz0, hz1, hz2⟩ : ∃ i0, Try.prog.info? 28 = some i0 ∧ i0.zero = some (.agg #[.int .i64 0, .int .i64 0, .int .i64 0, .string ⟨#[]⟩]) ∧ i0.size = 4 ∧ i0.bytes = 40 := by
    have hinf := info28
    cases hq : Try.prog.info? 28 with
    | none => rw [hq] at hinf; simp at hinf
    | some i0 =>
      rw [hq] at hinf
      simp only [Option.map_some, Option.some.injEq, Prod.mk.injEq] at hinf
      exact ⟨i0, rfl, hinf.1, hinf.2.1, hinf.2.2⟩
  have q26 : ∀ (w : World) (a : Option Addr) (n c n' c' : Nat), (binOp .eql 24 (.slice a n c) (.slice none n' c')).run Try.prog w = .ok (.bool a.isNone) w := fun w a n c n' c' => Lib.run_eql_slice_nil w _ _ a n c n' c' Try.underlying24
  have u26 : ∀ w, Sem.run Try.prog (underlying 24) w = .ok (TypeDesc.slice 28) w := run_underlying Try.underlying24
  have HI := Aside0.mk (And.intro hi0 (And.intro hz0 (And.intro hz1 hz2)))
  have HB := Aside0.mk hb
  clear hr hi0 hz0 hz1 hz2 hb
  go_enter Try.func29, Try.ntmps29
  go_wp2_with (at_builtin; refine wpList_append_own _ rfl _ _ 24 rfl w.heap.size 28 i0 _ 4 40 Try.underlying24 HI.out.1 HI.out.2.1 HI.out.2.2.1 HI.out.2.2.2 rfl (by omega) _ _ _ rfl (World.ownsRow_made w #[] 0 (Nat.le_refl _) (Nat.zero_le _) (by simp)) ad l.length c0 (l.flatMap cand) rfl ?qc1 ?qc2 ?qc3 ?qc4 ?qc5 ?qc6 ?_)
  case qc1 => exact flat_len l
  case qc2 =>
    intro j u hj
    exact Lib.cell?_alloc_some _ (HN.out j u hj)
  case qc3 => exact flat_one l
  case qc4 => have := HB.out; simp only [maxLen]; omega
  case qc5 => have := HB.out; omega
  case qc6 => simp
  intro v' w1 hown hgrow hnil
  have H1 := Aside0.mk (And.intro hown (And.intro hgrow hnil))
  clear hown hgrow hnil
  go_wp2_with fail
  go_ret
  obtain ⟨hown, hgrow, hnil⟩ := H1.out
  have hB : Below w.heap.size w w1 := ((Below.refl _ w).alloc (Nat.le_refl _) _).grown hgrow (by simp) (by intro k hk; simp [Value.ownBlock] at hk; omega)
  rcases hown.2 with ⟨rfl, _⟩ | ⟨g, cap, cur, rfl, hg, hh, h1, h2, h3, h4⟩
  · exact absurd rfl hnil
  · simp only [Nat.zero_add] at h1 h4 ⊢
    exact ⟨g, cap, rfl, PSt.of_own hg hh h1 h2 h3 (by simpa using h4) hB⟩
set_option maxHeartbeats 4000000 in
set_option maxRecDepth 100000 in
theorem clone_none (n c : Nat) (w : World) : Calls Try.prog 29 #[.slice none n c] w fun e w' => e = .returned (.slice none 0 0) ∧ w' = w := by
  have q26 : ∀ (w : World) (a : Option Addr) (n c n' c' : Nat), (binOp .eql 24 (.slice a n c) (.slice none n' c')).run Try.prog w = .ok (.bool a.isNone) w := fun w a n c n' c' => Lib.run_eql_slice_nil w _ _ a n c n' c' Try.underlying24
  go_enter Try.func29, Try.ntmps29
  go_wp2
  go_ret
  exact ⟨rfl, rfl⟩
theorem wo_less : Wo lessB := by
  refine ⟨fun x y h => ?_, fun x y z h1 h2 => ?_⟩
  · unfold lessB at h ⊢
    by_cases e2 : x.f2 = y.f2
    · rw [if_pos e2] at h
      rw [if_pos e2.symm]
      by_cases e0 : x.f0 = y.f0
      · rw [if_pos e0] at h
        rw [if_pos e0.symm]
        have := of_decide_eq_true h
        exact decide_eq_false (by omega)
      · rw [if_neg e0] at h
        rw [if_neg (fun e => e0 e.symm)]
        have := of_decide_eq_true h
        exact decide_eq_false (by omega)
    · rw [if_neg e2] at h
      rw [if_neg (fun e => e2 e.symm)]
      have := of_decide_eq_true h
      exact decide_eq_false (by omega)
  · unfold lessB at h1 h2 ⊢
    by_cases a2 : x.f2 = y.f2
    · rw [if_pos a2] at h1
      by_cases b2 : y.f2 = z.f2
      · rw [if_pos b2] at h2
        rw [if_pos (a2.trans b2)]
        by_cases a0 : x.f0 = y.f0
        · rw [if_pos a0] at h1
          by_cases b0 : y.f0 = z.f0
          · rw [if_pos b0] at h2
            rw [if_pos (a0.trans b0)]
            have := of_decide_eq_false h1
            have := of_decide_eq_false h2
            exact decide_eq_false (by omega)
          · rw [if_neg b0] at h2
            have := of_decide_eq_false h2
            rw [if_neg (by omega)]
            exact decide_eq_false (by omega)
        · rw [if_neg a0] at h1
          have := of_decide_eq_false h1
          by_cases b0 : y.f0 = z.f0
          · rw [if_neg (by omega)]
            exact decide_eq_false (by omega)
          · rw [if_neg b0] at h2
            have := of_decide_eq_false h2
            rw [if_neg (by omega)]
            exact decide_eq_false (by omega)
      · rw [if_neg b2] at h2
        have := of_decide_eq_false h2
        rw [if_neg (by omega)]
        exact decide_eq_false (by omega)
    · rw [if_neg a2] at h1
      have := of_decide_eq_false h1
      by_cases b2 : y.f2 = z.f2
      · rw [if_neg (by omega)]
        exact decide_eq_false (by omega)
      · rw [if_neg b2] at h2
        have := of_decide_eq_false h2
        rw [if_neg (by omega)]
        exact decide_eq_false (by omega)
theorem meth_less (v : Value) (w : World) : Sem.run Try.prog (method 233 59 v "Less") w = .ok (112, v) w := by kernel_rfl
theorem meth_swap (v : Value) (w : World) : Sem.run Try.prog (method 233 59 v "Swap") w = .ok (113, v) w := by kernel_rfl
theorem meth_len (v : Value) (w : World) : Sem.run Try.prog (method 233 59 v "Len") w = .ok (111, v) w := by kernel_rfl
theorem call_less (args : Array Value) (w : World) : (callFunc 112 args).run Try.prog w = .ok (.enter 112 args) w := by kernel_rfl
theorem call_swap (args : Array Value) (w : World) : (callFunc 113 args).run Try.prog w = .ok (.enter 113 args) w := by kernel_rfl
theorem call_len (args : Array Value) (w : World) : (callFunc 111 args).run Try.prog w = .ok (.enter 111 args) w := by kernel_rfl
theorem sorter_some (g c B n : Nat) (w0 : World) : Sorter z28 lessB 59 (.slice (some ⟨g, 0, none⟩) n c) 112 113 (PSt g c B n w0) where
  mL := meth_less _
  mS := meth_swap _
  eL := call_less
  eS := call_swap
  less := less_order
  swap := swap_order
theorem sorter_none (w0 : World) (B : Nat) : Sorter z28 lessB 59 (.slice none 0 0) 112 113 (fun L w => L = [] ∧ Below B w0 w) where
  mL := meth_less _
  mS := meth_swap _
  eL := call_less
  eS := call_swap
  less := fun L w i k vi vk h hi => by rw [h.1] at hi; simp at hi
  swap := fun L w i k vi vk h hi => by rw [h.1] at hi; simp at hi
theorem len_none (w : World) : Calls Try.prog 111 #[.slice none 0 0] w fun e w' => e = .returned (.int .i64 0) ∧ w' = w := by
  go_enter Try.func111, Try.ntmps111
  go_wp2_with fail
  go_ret
  exact ⟨rfl, rfl⟩
theorem PSt.row {g c B n : Nat} {w0 w : World} {L : List Cd} (h : PSt g c B n w0 L w) : Kd.R k28 28 w B (fun _ => True) (.slice (some ⟨g, 0, none⟩) n c) L := by
  obtain ⟨cur, hb, hs, hc⟩ := h.blk
  have hl := h.len
  have hcap := h.cap
  refine ⟨fun _ _ => trivial, L.flatMap cand, ?_, ?_⟩
  · refine ⟨by rw [flat_len]; rfl, .inr ⟨g, c, cur, by rw [hl], h.low, hb, by omega, h.big, hs, ?_⟩⟩
    apply List.ext_getElem?
    intro q
    by_cases hq : q < L.length * 4
    · rw [show k28.sz = 4 from rfl, List.getElem?_take_of_lt hq, Array.getElem?_toList]
      have e : q = q / 4 * 4 + q % 4 := by omega
      have hj : q / 4 < L.length := by omega
      obtain ⟨x1, x2, x3, x4⟩ := hc (q / 4) _ (List.getElem?_eq_getElem hj)
      rw [e, flat_get L (q / 4) (q % 4) (by omega), List.getElem?_eq_getElem hj]
      rcases (show q % 4 = 0 ∨ q % 4 = 1 ∨ q % 4 = 2 ∨ q % 4 = 3 from by omega) with h4 | h4 | h4 | h4 <;> rw [h4]
      · exact x1
      · exact x2
      · exact x3
      · exact x4
    · rw [List.getElem?_eq_none (by rw [List.length_take, show k28.sz = 4 from rfl]; omega), List.getElem?_eq_none (by rw [flat_len]; omega)]
  · refine ⟨flat_len L, fun j x hx => ?_⟩
    have e : ((L.flatMap cand).drop (j * k28.sz)).take k28.sz = cand x := by
      apply List.ext_getElem?
      intro q
      rw [show k28.sz = 4 from rfl]
      by_cases hq : q < 4
      · rw [List.getElem?_take_of_lt hq, List.getElem?_drop, flat_get L j q hq, hx]
        rfl
      · rw [List.getElem?_eq_none (by rw [List.length_take]; omega), List.getElem?_eq_none (by simp [cand]; omega)]
    rw [e]
    exact k28_mkM _ _ _ _

def precedence_Sort.f (l0 : List Cd) : Option (List Cd) := if l0.length ≤ 1000000000 then some (isort lessB l0) else none
set_option maxHeartbeats 4000000 in
set_option maxRecDepth 100000 in
theorem precedence_Sort.calls (A0 : Option Addr) (c0 : Nat) (l0 : List Cd) (r : List Cd) (w : World) (hr0 : Kd.C k28 w A0 l0.length l0) (hc0 : l0.length ≤ c0) (h : precedence_Sort.f l0 = some r) :
    Calls Try.prog 9 #[.slice A0 l0.length c0] w fun e w' => ∃ v0_ : Value, e = .returned v0_ ∧ Kd.R k28 28 w' w.heap.size (fun _ => True) v0_ r ∧ Below w.heap.size w w' := by
  unfold precedence_Sort.f at h
  split at h
  · rename_i hb
    obtain rfl := Option.some.inj h
    have mL := meth_len
    cases A0 with
    | none =>
      have e0 : l0 = [] := by
        cases l0 with
        | nil => rfl
        | cons x l =>
          obtain ⟨ad, e, _⟩ := hr0.2.2 (by simp)
          simp at e
      subst e0
      have HS := Aside0.mk (sorter_none w w.heap.size)
      clear h hr0 hc0 hb
      go_enter Try.func9, Try.ntmps9
      go_wp2_with (refine Calls.mono (clone_none _ _ _) ?_; rintro e w2 ⟨rfl, rfl⟩)
      (refine Calls.mono (Stable_any HS.out wo_less (meth_len _) call_len [] _ ((len_none _).mono (fun e w' he => ⟨he.1, rfl, by rw [he.2]; exact Below.refl _ _⟩)) (by simp)) ?_; rintro e w3 ⟨rfl, h3⟩; have H3 := Aside0.mk h3; clear h3)
      go_wp2_with fail
      go_ret
      exact ⟨_, rfl, Kd.R_nil _ _ _ _ _, H3.out.2⟩
    | some ad =>
      have HC := Aside0.mk (clone_some ad c0 l0 w hr0 hb)
      have HB := Aside0.mk hb
      clear h hr0 hc0 hb
      go_enter Try.func9, Try.ntmps9
      go_wp2_with (refine Calls.mono HC.out ?_; rintro e w2 ⟨g, c, rfl, h2⟩; have H2 := Aside0.mk h2; clear h2 HC)
      (refine Calls.mono (Stable_any (sorter_some g c w.heap.size l0.length w) wo_less (meth_len _) call_len l0 _ (len_order l0 _ H2.out) HB.out) ?_; rintro e w3 ⟨rfl, h3⟩; have H3 := Aside0.mk h3; clear h3)
      go_wp2_with fail
      go_ret
      exact ⟨_, rfl, H3.out.row, H3.out.below⟩
  · simp at h
end Go.Proofs.Ytopfjjdkffdjpaa.Q
