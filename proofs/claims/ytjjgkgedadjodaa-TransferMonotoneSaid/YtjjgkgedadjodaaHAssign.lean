/- What is proved: a call of transfer.Assign answers what the plain function transfer_Assign.f tells, where at most 1000000 feasts are impeded. -/
import Derived.Test.YtjjgkgedadjodaaQx0
import Derived.Test.YtjjgkgedadjodaaHSet
namespace Go.Proofs.Ytjjgkgedadjodaa.Q
open Go.RowKit Go.Proofs.YtjjgkgedadjodaaW.PrintWords Go.Proofs.YtjjgkgedadjodaaW.PrintLast Go.Proofs.YtjjgkgedadjodaaW.PrintMore
set_option linter.unusedVariables false
set_option linter.unusedSimpArgs false

/-- The first day from d on (n days are left) that is free and not taken. -/
def transfer_seek (free : List Bool) (taken : List Int) : Nat → Nat → Option Nat
  | 0, _ => none
  | n + 1, d => if free.getD d false = true ∧ ¬ ((d : Int) ∈ taken) then some d else transfer_seek free taken n (d + 1)
/-- The feasts of a day. -/
def transfer_feasts (free : List Bool) (day : Nat) : List Int → List Int → List S36 → Option (List Int × List S36)
  | [], taken, out => some (taken, out)
  | f :: fs, taken, out => (transfer_seek free taken (free.length - (day + 1)) (day + 1)).bind fun d => transfer_feasts free day fs ((d : Int) :: taken) (out ++ [⟨f, (day : Int), (d : Int)⟩])
/-- The days. -/
def transfer_days (free : List Bool) : Nat → List (List Int) → List Int → List S36 → Option (List S36)
  | _, [], _, out => some out
  | day, fs :: rest, taken, out => (transfer_feasts free day fs taken out).bind fun p => transfer_days free (day + 1) rest p.1 p.2
def transfer_end : Option (List S36) → Option (List S36 × Int)
  | none => some ([], 5)
  | some out => some (out, 0)
def transfer_Assign.f (l0 : List Bool) (l1 : List (List Int)) : Option (List S36 × Int) :=
  if l0.length = l1.length then
    if l1.flatten.length ≤ 1000000 then transfer_end (transfer_days l0 0 l1 [] []) else none
  else some ([], 3)

theorem transfer_info : (Try.prog.info? 36).map (fun i => (i.zero, i.size, i.bytes)) = some (some (.agg #[(.int .i64 0), (.int .i64 0), (.int .i64 0)]), 3, 24) := by kernel_rfl
theorem transfer_zero (w : World) : (zeroValue 4).run Try.prog w = .ok (.bool false) w := by kernel_rfl

set_option maxHeartbeats 4000000 in
set_option maxRecDepth 100000 in
theorem transfer_Assign.calls (A0 : Option Addr) (c0 : Nat) (l0 : List Bool) (A1 : Option Addr) (c1 : Nat) (l1 : List (List Int)) (r1 : List S36) (r2 : Int) (w : World) (hr0 : Kd.C Kd.bool w A0 l0.length l0) (hc0 : l0.length ≤ c0) (hr1 : Kd.C (Kd.slice 3 (Kd.int .i64)) w A1 l1.length l1) (hc1 : l1.length ≤ c1) (h : transfer_Assign.f l0 l1 = some (r1, r2)) :
    Calls Try.prog 11 #[.slice A0 l0.length c0, .slice A1 l1.length c1] w fun e w' => ∃ v0_ : Value, e = .returned (.tuple #[v0_, .int .i64 r2]) ∧ Kd.R k36 36 w' w.heap.size (fun _ => True) v0_ r1 ∧ Below w.heap.size w w' := by
  have HR0 := Aside0.mk hr0
  have HR1 := Aside0.mk hr1
  have hm0 : l0.length ≤ 9223372036854775807 := hr0.2.1
  have hm1 : l1.length ≤ 9223372036854775807 := hr1.2.1
  clear hr0 hc0 hr1 hc1
  unfold transfer_Assign.f at h
  by_cases hl : l0.length = l1.length
  · rw [if_pos hl] at h
    by_cases hs : l1.flatten.length ≤ 1000000
    · rw [if_pos hs] at h
      have HL := Aside0.mk hl
      have HS := Aside0.mk hs
      have H := Aside0.mk h
      have c3b1 : ((l0.length : Int) != (l1.length : Int)) = false := bne_eq_false_iff_eq.mpr (by omega)
      have hmm := @run_makeMap Try.prog
      have hu := Try.underlying36
      clear hl hs h
      go_enter Try.func11, Try.ntmps11
      go_wp2
      go_loopg [6, 21] l1.length (fun kq v6 v21 w' => ∃ (i : Nat) (taken : List Int) (out : List S36), v21 = .int .i64 i ∧ Aside0 (i + kq = l1.length) ∧ Aside0 (transfer_end (transfer_days l0 i (l1.drop i) taken out) = some (r1, r2)) ∧ Aside0 (out.length + (l1.drop i).flatten.length ≤ 1000000 ∧ taken.length = out.length) ∧ Aside0 (Kd.R k36 36 w' w.heap.size (fun _ => True) v6 out) ∧ Aside0 (SetB Try.prog 3 4 w' w.heap.size taken) ∧ Aside0 (Below w.heap.size w w'))
      case atStart => exact ⟨0, [], [], rfl, ⟨by omega⟩, H, ⟨by simpa using HS.out⟩, ⟨Kd.R_nil _ _ _ _ _⟩, ⟨SetB.made _ _ _ _⟩, ⟨(Below.refl _ _).alloc (Nat.le_refl _) _⟩⟩
      case round =>
        clear H HS
        obtain ⟨i, taken, out, rfl, HI, HA, HN, HO, HM, HB⟩ := hrel
        by_cases hi : i < l1.length
        · have c8 : decide ((i : Int) < (l1.length : Int)) = true := decide_eq_true (by omega)
          have c8b : decide (i < l1.length) = true := decide_eq_true hi
          obtain ⟨fs, hfs⟩ : ∃ fs, l1.drop i = fs :: l1.drop (i + 1) := ⟨l1[i], by rw [← List.drop_eq_getElem_cons hi]⟩
          have hfd : rd_L3 l1 (i : Int) = fs := by
            have h2 : (l1.drop i)[0]? = some fs := by rw [hfs]; rfl
            rw [List.getElem?_drop, Nat.add_zero] at h2
            simp [rd_L3, List.getD, h2]
          obtain ⟨ad1, B1, b1, e1, hx1, hl1, hi1⟩ := at_L3 HR1.out (i : Int) (by omega) (by omega)
          cases e1
          rw [hfd] at hx1 hl1 hi1
          rw [Int.toNat_natCast] at hx1
          replace hx1 := (HB.out.cell (World.block_lt_of_cell? w _ hx1)).trans hx1
          have HR2 := Aside0.mk hi1
          have HFS := Aside0.mk hfs
          have hmf : fs.length ≤ 9223372036854775807 := hi1.2.1
          clear hl1 hi1 hfd hfs
          go_wp2
          go_step3
          go_wp2
          go_step3
          go_wp2
          obtain ⟨k1, rfl⟩ : ∃ m, gk = m + 1 := ⟨gk - 1, by have := HI.out; omega⟩
          have HA1 : Aside0 (transfer_end ((transfer_feasts l0 i fs taken out).bind fun p => transfer_days l0 (i + 1) (l1.drop (i + 1)) p.1 p.2) = some (r1, r2)) := ⟨by have h2 := HA.out; rw [HFS.out] at h2; exact h2⟩
          have HN1 : Aside0 (out.length + (fs.length + (l1.drop (i + 1)).flatten.length) ≤ 1000000 ∧ taken.length = out.length) := ⟨by have h2 := HN.out; rw [HFS.out] at h2; simpa using h2⟩
          clear HA HN HFS hx1 c8 c8b
          go_loopg [6, 28] fs.length (fun kq v6 v28 w' => ∃ (j : Nat) (taken : List Int) (out : List S36), v28 = .int .i64 j ∧ Aside0 (j + kq = fs.length) ∧ Aside0 (transfer_end ((transfer_feasts l0 i (fs.drop j) taken out).bind fun p => transfer_days l0 (i + 1) (l1.drop (i + 1)) p.1 p.2) = some (r1, r2)) ∧ Aside0 (out.length + ((fs.drop j).length + (l1.drop (i + 1)).flatten.length) ≤ 1000000 ∧ taken.length = out.length) ∧ Aside0 (Kd.R k36 36 w' w.heap.size (fun _ => True) v6 out) ∧ Aside0 (SetB Try.prog 3 4 w' w.heap.size taken) ∧ Aside0 (Below w.heap.size w w'))
          case atStart => exact ⟨0, taken, out, rfl, ⟨by omega⟩, HA1, HN1, HO, HM, HB⟩
          case round =>
            clear HA1 HN1 HO HM HB
            obtain ⟨j, taken, out, rfl, HJ, HA, HN, HO, HM, HB⟩ := hrel
            by_cases hj : j < fs.length
            · obtain ⟨f, hf⟩ : ∃ f, fs.drop j = f :: fs.drop (j + 1) := ⟨fs[j], by rw [← List.drop_eq_getElem_cons hj]⟩
              have hfd : rd fs (j : Int) = f := by
                have h2 : (fs.drop j)[0]? = some f := by rw [hf]; rfl
                rw [List.getElem?_drop, Nat.add_zero] at h2
                simp [rd, List.getD, h2]
              obtain ⟨ad2, e2, hx2⟩ := Kd.at_int HR2.out (j : Int) (by omega) (by omega)
              cases e2
              rw [hfd, Int.toNat_natCast] at hx2
              replace hx2 := (HB.out.cell (World.block_lt_of_cell? w _ hx2)).trans hx2
              obtain ⟨k2, rfl⟩ : ∃ m, gk = m + 1 := ⟨gk - 1, by have := HJ.out; omega⟩
              have HA1 : Aside0 (transfer_end (((transfer_seek l0 taken (l0.length - (i + 1)) (i + 1)).bind fun d => transfer_feasts l0 i (fs.drop (j + 1)) ((d : Int) :: taken) (out ++ [⟨f, (i : Int), (d : Int)⟩])).bind fun p => transfer_days l0 (i + 1) (l1.drop (i + 1)) p.1 p.2) = some (r1, r2)) := ⟨by have h2 := HA.out; rw [hf] at h2; exact h2⟩
              have HN1 : Aside0 (out.length + 1 + ((fs.drop (j + 1)).length + (l1.drop (i + 1)).flatten.length) ≤ 1000000 ∧ taken.length = out.length) := ⟨by have h2 := HN.out; rw [hf] at h2; simp only [List.length_cons] at h2; omega⟩
              have hi9 : i + 1 ≤ l0.length := by have := HL.out; omega
              have c8 : decide ((j : Int) < (fs.length : Int)) = true := decide_eq_true (by omega)
              have c8b : decide (j < fs.length) = true := decide_eq_true hj
              clear HA HN hfd hf
              go_wp2
              clear c8 c8b hx2
              go_loopg [6, 12] (l0.length - (i + 1)) (fun kq v6 v12 w' => ∃ (d : Nat), v12 = .int .i64 d ∧ Aside0 (d + kq = l0.length) ∧ Aside0 (transfer_end (((transfer_seek l0 taken kq d).bind fun d => transfer_feasts l0 i (fs.drop (j + 1)) ((d : Int) :: taken) (out ++ [⟨f, (i : Int), (d : Int)⟩])).bind fun p => transfer_days l0 (i + 1) (l1.drop (i + 1)) p.1 p.2) = some (r1, r2)) ∧ Aside0 (Kd.R k36 36 w' w.heap.size (fun _ => True) v6 out) ∧ Aside0 (SetB Try.prog 3 4 w' w.heap.size taken) ∧ Aside0 (Below w.heap.size w w'))
              case atStart => exact ⟨i + 1, by go_num, ⟨by omega⟩, HA1, HO, HM, HB⟩
              case round =>
                clear HA1 HO HM HB
                obtain ⟨d, rfl, HD, HA, HO, HM, HB⟩ := hrel
                by_cases hd : d < l0.length
                · obtain ⟨k3, rfl⟩ : ∃ m, gk = m + 1 := ⟨gk - 1, by have := HD.out; omega⟩
                  obtain ⟨ad0, e0, hx0⟩ := Kd.at_bool HR0.out (d : Int) (by omega) (by omega)
                  cases e0
                  obtain ⟨x, hx⟩ : ∃ x, x = rdOf false l0 (d : Int) := ⟨_, rfl⟩
                  rw [← hx, Int.toNat_natCast] at hx0
                  replace hx0 := (HB.out.cell (World.block_lt_of_cell? w _ hx0)).trans hx0
                  have HX : Aside0 (l0.getD d false = x) := ⟨by rw [hx]; simp [rdOf]⟩
                  have c8 : decide ((d : Int) < (l0.length : Int)) = true := decide_eq_true (by omega)
                  have c8b : decide (d < l0.length) = true := decide_eq_true hd
                  have hlk := HM.out.lookup (t := 47) (x := (d : Int)) Try.underlying3 Try.underlying4 Try.underlying47 (transfer_zero _) (by exact WalkArith.wf_i64 (by omega))
                  clear hx
                  cases x with
                  | false =>
                    go_wp2
                    go_roundg k3
                    case measure => omega
                    case rel =>
                      refine ⟨d + 1, by go_num, ⟨by have := HD.out; omega⟩, ⟨?_⟩, HO, HM, HB⟩
                      have h2 := HA.out
                      unfold transfer_seek at h2
                      rw [if_neg (by rw [HX.out]; simp)] at h2
                      exact h2
                  | true =>
                    by_cases ht : (d : Int) ∈ taken
                    · rw [decide_eq_true ht] at hlk
                      go_wp2
                      go_roundg k3
                      case measure => omega
                      case rel =>
                        refine ⟨d + 1, by go_num, ⟨by have := HD.out; omega⟩, ⟨?_⟩, HO, HM, HB⟩
                        have h2 := HA.out
                        unfold transfer_seek at h2
                        rw [if_neg (by simp [ht])] at h2
                        exact h2
                    · rw [decide_eq_false ht] at hlk
                      have HA1 : Aside0 (transfer_end ((transfer_feasts l0 i (fs.drop (j + 1)) ((d : Int) :: taken) (out ++ [⟨f, (i : Int), (d : Int)⟩])).bind fun p => transfer_days l0 (i + 1) (l1.drop (i + 1)) p.1 p.2) = some (r1, r2)) := ⟨by
                        have h2 := HA.out
                        unfold transfer_seek at h2
                        rw [if_pos ⟨HX.out, ht⟩] at h2
                        exact h2⟩
                      clear HA HX
                      have wd : (Lit.int .i64 (d : Int)).wf = true := by exact WalkArith.wf_i64 (by omega)
                      go_wp2_with (first | (at_mapUpdate; refine SetB.store (t := 47) rfl _ _ _ rfl Try.underlying3 Try.underlying4 Try.underlying47 HM.out (by have := HN1.out; unfold maxLen; omega) (d : Int) wd rfl rfl rfl ?_; intro w1 hM1 hg1; have n0_ := Aside0.mk (HM.out.row_kept HO.out hg1); have n1_ := Aside0.mk (Below.grown HB.out hg1 HB.out.size (fun k hk => by injection hk with hk; omega)); have n2_ := Aside0.mk hM1; clear HO HB HM hM1 hg1 hlk; have HO := n0_; have HB := n1_; have HM := n2_; clear n0_ n1_ n2_) | ((with_reducible refine gate_builtin (b := .append) (xs := #[.tmp 52, .tmp 57]) rfl ?_); at_builtin; (refine Kd.R_append k36 (w0 := w) w.heap.size rfl (.tmp 52) (.tmp 57) 26 36 (.agg #[(.int .i64 0), (.int .i64 0), (.int .i64 0)]) 24 rfl Try.underlying26 transfer_info rfl (by decide) (by omega) u6 out (⟨f, (i : Int), (d : Int)⟩ : S36) [.int .i64 f, .int .i64 (i : Int), .int .i64 (d : Int)] (fun _ => True) (fun _ => False) rfl rfl ?aP (fun _ hk => hk.elim) ?aF ?aO ?aB ?aS ?aL ?_); (case aP => exact k36_mkM _ _ _ _); (case aB => exact HB.out); (case aF => exact fun _ _ => trivial); (case aO => exact HO.out); (case aS => exact HB.out.size); (case aL => have := HN1.out; omega); intro v9 w9 ho hb hg hat; have n0_ := Aside0.mk ho; have n1_ := Aside0.mk hb; have n2_ := Aside0.mk (HM.out.kept hg (HM.out.ne_row HO.out)); clear HO HB HM ho hb hg hat; have HO := n0_; have HB := n1_; have HM := n2_; clear n0_ n1_ n2_))
                      go_roundg k2
                      case measure => omega
                      case rel =>
                        refine ⟨j + 1, (d : Int) :: taken, _, by go_num, ⟨by have := HJ.out; omega⟩, HA1, ⟨?_⟩, HO, HM, HB⟩
                        have h2 := HN1.out
                        simp only [List.length_append, List.length_cons, List.length_nil]
                        omega
                · have c8 : decide ((d : Int) < (l0.length : Int)) = false := decide_eq_false (by omega)
                  have c8b : decide (d < l0.length) = false := decide_eq_false hd
                  go_wp2
                  rw [Exit.noGoto_ret]
                  go_ret2
                  have h2 := HA.out
                  obtain rfl : gk = 0 := by have := HD.out; omega
                  simp only [transfer_seek, transfer_end, Option.bind_none, Option.some.injEq, Prod.mk.injEq] at h2
                  obtain ⟨rfl, rfl⟩ := h2
                  exact ⟨_, rfl, Kd.R_nil _ _ _ _ _, HB.out⟩
            · have c8 : decide ((j : Int) < (fs.length : Int)) = false := decide_eq_false (by omega)
              have c8b : decide (j < fs.length) = false := decide_eq_false hj
              go_wp2
              rw [Exit.noGoto_normal]
              go_wp2
              go_roundg k1
              case measure => omega
              case rel =>
                refine ⟨i + 1, taken, out, by go_num, ⟨by have := HI.out; omega⟩, ⟨?_⟩, ⟨?_⟩, HO, HM, HB⟩
                · have h2 := HA.out
                  rw [List.drop_of_length_le (by omega)] at h2
                  exact h2
                · have h2 := HN.out
                  rw [List.drop_of_length_le (by omega)] at h2
                  simpa using h2
        · have c8 : decide ((i : Int) < (l1.length : Int)) = false := decide_eq_false (by omega)
          have c8b : decide (i < l1.length) = false := decide_eq_false hi
          go_wp2
          go_ret2
          have h1 := HA.out
          rw [List.drop_of_length_le (by omega)] at h1
          simp only [transfer_days, transfer_end, Option.some.injEq, Prod.mk.injEq] at h1
          obtain ⟨rfl, rfl⟩ := h1
          exact ⟨_, rfl, HO.out, HB.out⟩
    · rw [if_neg hs] at h
      exact absurd h (by simp)
  · rw [if_neg hl] at h
    have c3b1 : ((l0.length : Int) != (l1.length : Int)) = true := bne_iff_ne.mpr (by omega)
    simp only [Option.some.injEq, Prod.mk.injEq] at h
    obtain ⟨rfl, rfl⟩ := h
    go_enter Try.func11, Try.ntmps11
    go_wp2
    go_ret2
    exact ⟨_, rfl, Kd.R_nil _ _ _ _ _, Below.refl _ _⟩
end Go.Proofs.Ytjjgkgedadjodaa.Q
