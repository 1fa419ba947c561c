/- What is proved: what the statement CattextOffsetsSaid needs, part 3 of 11; the last part proves the statement. No condition. -/
import Derived.Test.YtlfokdbnbmebiaaDoorZCOs1
set_option maxHeartbeats 8000000
set_option maxRecDepth 100000
set_option linter.unusedVariables false
set_option linter.unusedSimpArgs false
section
namespace Go.Proofs.YtlfokdbnbmebiaaDoor.Q
open Go.RowKit Go.Proofs.YtlfokdbnbmebiaaDoorW.PrintWords Go.Proofs.YtlfokdbnbmebiaaDoorW.PrintLast Go.Proofs.YtlfokdbnbmebiaaDoorW.PrintMore
attribute [local go_sem] max2_int min2_int max_two min_two max_three min_three max_four min_four
mutual
def computusref26_Print.l0 : Nat → ByteArray → Int → Int → List (S41) → List (S43) → Option (ByteArray)
 | 0, _, _, _, _, _ => none
 | k + 1, x3, x4, x391000, x391001, x391002 => if x4 < (x391001.length : Int) then (if 0 ≤ x4 then (if x3.size + 7 ≤ 9223372036854775807 then (if (x3 ++ (⟨#[115, 101, 97, 115, 111, 110, 32]⟩ : ByteArray)).size + ((rd_T41 x391001 x4).f0).size ≤ 9223372036854775807 then (if ((x3 ++ (⟨#[115, 101, 97, 115, 111, 110, 32]⟩ : ByteArray)) ++ ((rd_T41 x391001 x4).f0)).size + 1 ≤ 9223372036854775807 then ((computusref26_Num.f k ((rd_T41 x391001 x4).f1)).bind fun t394 => (if (((x3 ++ (⟨#[115, 101, 97, 115, 111, 110, 32]⟩ : ByteArray)) ++ ((rd_T41 x391001 x4).f0)) ++ (⟨#[32]⟩ : ByteArray)).size + t394.size ≤ 9223372036854775807 then (if ((((x3 ++ (⟨#[115, 101, 97, 115, 111, 110, 32]⟩ : ByteArray)) ++ ((rd_T41 x391001 x4).f0)) ++ (⟨#[32]⟩ : ByteArray)) ++ t394).size + 1 ≤ 9223372036854775807 then ((computusref26_Num.f k ((rd_T41 x391001 x4).f2)).bind fun t395 => (if (((((x3 ++ (⟨#[115, 101, 97, 115, 111, 110, 32]⟩ : ByteArray)) ++ ((rd_T41 x391001 x4).f0)) ++ (⟨#[32]⟩ : ByteArray)) ++ t394) ++ (⟨#[32]⟩ : ByteArray)).size + t395.size ≤ 9223372036854775807 then (if ((((((x3 ++ (⟨#[115, 101, 97, 115, 111, 110, 32]⟩ : ByteArray)) ++ ((rd_T41 x391001 x4).f0)) ++ (⟨#[32]⟩ : ByteArray)) ++ t394) ++ (⟨#[32]⟩ : ByteArray)) ++ t395).size + 1 ≤ 9223372036854775807 then ((computusref26_anchor.f k ((rd_T41 x391001 x4).f3.f0) ((rd_T41 x391001 x4).f3.f1) ((rd_T41 x391001 x4).f3.f2) ((rd_T41 x391001 x4).f3.f3) ((rd_T41 x391001 x4).f3.f4) ((rd_T41 x391001 x4).f3.f5)).bind fun t396 => (if (((((((x3 ++ (⟨#[115, 101, 97, 115, 111, 110, 32]⟩ : ByteArray)) ++ ((rd_T41 x391001 x4).f0)) ++ (⟨#[32]⟩ : ByteArray)) ++ t394) ++ (⟨#[32]⟩ : ByteArray)) ++ t395) ++ (⟨#[32]⟩ : ByteArray)).size + t396.size ≤ 9223372036854775807 then (if ((((((((x3 ++ (⟨#[115, 101, 97, 115, 111, 110, 32]⟩ : ByteArray)) ++ ((rd_T41 x391001 x4).f0)) ++ (⟨#[32]⟩ : ByteArray)) ++ t394) ++ (⟨#[32]⟩ : ByteArray)) ++ t395) ++ (⟨#[32]⟩ : ByteArray)) ++ t396).size + 1 ≤ 9223372036854775807 then (computusref26_Print.l0 k (((((((((x3 ++ (⟨#[115, 101, 97, 115, 111, 110, 32]⟩ : ByteArray)) ++ ((rd_T41 x391001 x4).f0)) ++ (⟨#[32]⟩ : ByteArray)) ++ t394) ++ (⟨#[32]⟩ : ByteArray)) ++ t395) ++ (⟨#[32]⟩ : ByteArray)) ++ t396) ++ (⟨#[10]⟩ : ByteArray)) (wrap64 (x4 + 1)) x391000 x391001 x391002) else (none)) else (none))) else (none)) else (none))) else (none)) else (none))) else (none)) else (none)) else (none)) else (none)) else (computusref26_Print.l1 k x3 0 x391000 x391001 x391002)
def computusref26_Print.l1 : Nat → ByteArray → Int → Int → List (S41) → List (S43) → Option (ByteArray)
 | 0, _, _, _, _, _ => none
 | k + 1, x3, x6, x391000, x391001, x391002 => if x6 < (x391002.length : Int) then (if 0 ≤ x6 then (if x3.size + 6 ≤ 9223372036854775807 then (if (x3 ++ (⟨#[102, 101, 97, 115, 116, 32]⟩ : ByteArray)).size + ((rd_T43 x391002 x6).f0).size ≤ 9223372036854775807 then (if ((x3 ++ (⟨#[102, 101, 97, 115, 116, 32]⟩ : ByteArray)) ++ ((rd_T43 x391002 x6).f0)).size + 1 ≤ 9223372036854775807 then ((computusref26_Num.f k ((rd_T43 x391002 x6).f1)).bind fun t399 => (if (((x3 ++ (⟨#[102, 101, 97, 115, 116, 32]⟩ : ByteArray)) ++ ((rd_T43 x391002 x6).f0)) ++ (⟨#[32]⟩ : ByteArray)).size + t399.size ≤ 9223372036854775807 then (if ((((x3 ++ (⟨#[102, 101, 97, 115, 116, 32]⟩ : ByteArray)) ++ ((rd_T43 x391002 x6).f0)) ++ (⟨#[32]⟩ : ByteArray)) ++ t399).size + 1 ≤ 9223372036854775807 then ((computusref26_policy.f ((rd_T43 x391002 x6).f2)).bind fun t400 => (if (((((x3 ++ (⟨#[102, 101, 97, 115, 116, 32]⟩ : ByteArray)) ++ ((rd_T43 x391002 x6).f0)) ++ (⟨#[32]⟩ : ByteArray)) ++ t399) ++ (⟨#[32]⟩ : ByteArray)).size + t400.size ≤ 9223372036854775807 then (if ((((((x3 ++ (⟨#[102, 101, 97, 115, 116, 32]⟩ : ByteArray)) ++ ((rd_T43 x391002 x6).f0)) ++ (⟨#[32]⟩ : ByteArray)) ++ t399) ++ (⟨#[32]⟩ : ByteArray)) ++ t400).size + 1 ≤ 9223372036854775807 then ((computusref26_anchor.f k ((rd_T43 x391002 x6).f3.f0) ((rd_T43 x391002 x6).f3.f1) ((rd_T43 x391002 x6).f3.f2) ((rd_T43 x391002 x6).f3.f3) ((rd_T43 x391002 x6).f3.f4) ((rd_T43 x391002 x6).f3.f5)).bind fun t401 => (if (((((((x3 ++ (⟨#[102, 101, 97, 115, 116, 32]⟩ : ByteArray)) ++ ((rd_T43 x391002 x6).f0)) ++ (⟨#[32]⟩ : ByteArray)) ++ t399) ++ (⟨#[32]⟩ : ByteArray)) ++ t400) ++ (⟨#[32]⟩ : ByteArray)).size + t401.size ≤ 9223372036854775807 then (if ((((((((x3 ++ (⟨#[102, 101, 97, 115, 116, 32]⟩ : ByteArray)) ++ ((rd_T43 x391002 x6).f0)) ++ (⟨#[32]⟩ : ByteArray)) ++ t399) ++ (⟨#[32]⟩ : ByteArray)) ++ t400) ++ (⟨#[32]⟩ : ByteArray)) ++ t401).size + 1 ≤ 9223372036854775807 then (computusref26_Print.l1 k (((((((((x3 ++ (⟨#[102, 101, 97, 115, 116, 32]⟩ : ByteArray)) ++ ((rd_T43 x391002 x6).f0)) ++ (⟨#[32]⟩ : ByteArray)) ++ t399) ++ (⟨#[32]⟩ : ByteArray)) ++ t400) ++ (⟨#[32]⟩ : ByteArray)) ++ t401) ++ (⟨#[10]⟩ : ByteArray)) (wrap64 (x6 + 1)) x391000 x391001 x391002) else (none)) else (none))) else (none)) else (none))) else (none)) else (none))) else (none)) else (none)) else (none)) else (none)) else (if x3.size + 4 ≤ 9223372036854775807 then (some (x3 ++ (⟨#[101, 110, 100, 10]⟩ : ByteArray))) else (none))
end
def computusref26_Print.f (k : Nat) (a0_0 : Int) (l0_1 : List (S41)) (l0_2 : List (S43)) : Option (ByteArray) := (computusref26_Num.f k a0_0).bind fun t391 => (if 15 + t391.size ≤ 9223372036854775807 then (if ((⟨#[99, 97, 116, 97, 108, 111, 103, 117, 101, 10, 102, 114, 101, 101, 32]⟩ : ByteArray) ++ t391).size + 1 ≤ 9223372036854775807 then (computusref26_Print.l0 k (((⟨#[99, 97, 116, 97, 108, 111, 103, 117, 101, 10, 102, 114, 101, 101, 32]⟩ : ByteArray) ++ t391) ++ (⟨#[10]⟩ : ByteArray)) 0 a0_0 l0_1 l0_2) else (none)) else (none))
def computusref26_Print.T6 : Bool × List (List Nat × List Nat) := (true, [([], []), ([0], [0]), ([], []), ([2], [2]), ([1, 3], [1, 3]), ([4], [4]), ([], []), ([6], [6]), ([7], [7]), ([5, 8], [5, 8]), ([9], [9]), ([], []), ([11], [11]), ([12, 8], [12]), ([10, 13], [10, 13]), ([14], [14]), ([], []), ([16], [16]), ([17, 13], [17]), ([15, 18], [15, 18]), ([19], [19]), ([20, 18, 0, 1, 2, 3, 4, 5, 6, 7, 8, 9, 10, 11, 12, 13, 14, 15, 16, 17, 18, 19, 20], [0, 20])])
def computusref26_Print.B6 : List Nat := [0, 1, 0, 4, 15, 31, 0, 64, 192, 511, 1023, 0, 2048, 6592, 16383, 32767, 0, 65536, 211392, 524287, 1048575, 2097151]
theorem computusref26_Print.tab6 : rtab .any (opsOf Tryd.f15 6) = computusref26_Print.T6 := by kernel_rfl
theorem computusref26_Print.bits6 : waitsOk computusref26_Print.T6.2 computusref26_Print.B6 = true := by kernel_rfl
def computusref26_Print.T11 : Bool × List (List Nat × List Nat) := (true, [([], []), ([0], [0]), ([], []), ([2], [2]), ([1, 3], [1, 3]), ([4], [4]), ([], []), ([6], [6]), ([7], [7]), ([5, 8], [5, 8]), ([9], [9]), ([], []), ([11], [11]), ([12, 8], [12]), ([10, 13], [10, 13]), ([14], [14]), ([], []), ([16], [16]), ([17, 13], [17]), ([15, 18], [15, 18]), ([19], [19]), ([20, 18, 0, 1, 2, 3, 4, 5, 6, 7, 8, 9, 10, 11, 12, 13, 14, 15, 16, 17, 18, 19, 20], [0, 20])])
def computusref26_Print.B11 : List Nat := [0, 1, 0, 4, 15, 31, 0, 64, 192, 511, 1023, 0, 2048, 6592, 16383, 32767, 0, 65536, 211392, 524287, 1048575, 2097151]
theorem computusref26_Print.tab11 : rtab .any (opsOf Tryd.f15 11) = computusref26_Print.T11 := by kernel_rfl
theorem computusref26_Print.bits11 : waitsOk computusref26_Print.T11.2 computusref26_Print.B11 = true := by kernel_rfl
theorem computusref26_Print.calls (k : Nat) (a0_0 : Int) (A0_1 : Option Addr) (c0_1 : Nat) (l0_1 : List (S41)) (A0_2 : Option Addr) (c0_2 : Nat) (l0_2 : List (S43)) (r : ByteArray) (w : World) (hr0_1 : Kd.C k41 w A0_1 l0_1.length l0_1) (hc0_1 : l0_1.length ≤ c0_1) (hr0_2 : Kd.C k43 w A0_2 l0_2.length l0_2) (hc0_2 : l0_2.length ≤ c0_2) (h : computusref26_Print.f k a0_0 l0_1 l0_2 = some r) :
  Calls Tryd.prog 15 #[.agg #[.int .i64 a0_0, .slice A0_1 l0_1.length c0_1, .slice A0_2 l0_2.length c0_2]] w fun e w' => e = .returned (.string r) ∧ Below w.heap.size w w' := by
 have hu26 := Tryd.underlying26
 have hu41 := Tryd.underlying41
 have hu39 := Tryd.underlying39
 have hu43 := Tryd.underlying43
 have HR0_1 := Aside0.mk hr0_1
 have HC0_1 := Aside0.mk hc0_1
 clear hr0_1 hc0_1
 have HR0_2 := Aside0.mk hr0_2
 have HC0_2 := Aside0.mk hc0_2
 clear hr0_2 hc0_2
 have HB := Aside0.mk (Below.refl w.heap.size w)
 have H : ((computusref26_Num.f k a0_0).bind fun t391 => (if 15 + t391.size ≤ 9223372036854775807 then (if ((⟨#[99, 97, 116, 97, 108, 111, 103, 117, 101, 10, 102, 114, 101, 101, 32]⟩ : ByteArray) ++ t391).size + 1 ≤ 9223372036854775807 then (computusref26_Print.l0 k (((⟨#[99, 97, 116, 97, 108, 111, 103, 117, 101, 10, 102, 114, 101, 101, 32]⟩ : ByteArray) ++ t391) ++ (⟨#[10]⟩ : ByteArray)) 0 a0_0 l0_1 l0_2) else (none)) else (none))) = some r := h
 clear h
 replace H := Option.bind_eq_some_iff.mp H
 obtain ⟨t391, A20, H⟩ := H
 replace H : (if 15 + t391.size ≤ 9223372036854775807 then (if ((⟨#[99, 97, 116, 97, 108, 111, 103, 117, 101, 10, 102, 114, 101, 101, 32]⟩ : ByteArray) ++ t391).size + 1 ≤ 9223372036854775807 then (computusref26_Print.l0 k (((⟨#[99, 97, 116, 97, 108, 111, 103, 117, 101, 10, 102, 114, 101, 101, 32]⟩ : ByteArray) ++ t391) ++ (⟨#[10]⟩ : ByteArray)) 0 a0_0 l0_1 l0_2) else (none)) else (none)) = some r := H
 have A2 := Aside0.mk A20
 clear A20
 by_cases c3 : 15 + t391.size ≤ 9223372036854775807
 ·rw [if_pos c3] at H
  have c3b0 := eq_true c3
  have c3b1 : decide (15 + t391.size ≤ 9223372036854775807) = true := decide_eq_true c3
  try have c3b2 : (9223372036854775807 < 15 + t391.size) = False := eq_false (Nat.not_lt.2 c3)
  by_cases c4 : ((⟨#[99, 97, 116, 97, 108, 111, 103, 117, 101, 10, 102, 114, 101, 101, 32]⟩ : ByteArray) ++ t391).size + 1 ≤ 9223372036854775807
  ·rw [if_pos c4] at H
   have c4b0 := eq_true c4
   have c4b1 : decide (((⟨#[99, 97, 116, 97, 108, 111, 103, 117, 101, 10, 102, 114, 101, 101, 32]⟩ : ByteArray) ++ t391).size + 1 ≤ 9223372036854775807) = true := decide_eq_true c4
   have c4e : 15 + t391.size + 1 ≤ 9223372036854775807 := by have h_ := c4; simp only [ByteArray.size_append] at h_; exact h_
   have c4e0 := eq_true c4e
   have c4e1 : decide (15 + t391.size + 1 ≤ 9223372036854775807) = true := decide_eq_true c4e
   have c4e2 : (9223372036854775807 < 15 + t391.size + 1) = False := eq_false (Nat.not_lt.2 c4e)
   try have c4b2 : (9223372036854775807 < ((⟨#[99, 97, 116, 97, 108, 111, 103, 117, 101, 10, 102, 114, 101, 101, 32]⟩ : ByteArray) ++ t391).size + 1) = False := eq_false (Nat.not_lt.2 c4)
   have H' := Aside0.mk H
   clear H
   go_enter Tryd.func15, Tryd.ntmps15
   go_wp2_with (first | ((with_reducible refine gate_dst (N := 1) rfl ?_); refine box_event ?hg (N := 1) ?hd (cs := #[.int .i64 a0_0, .slice A0_1 l0_1.length c0_1, .slice A0_2 l0_2.length c0_2]) (t := 26) ?hr ?_; (case hd => rfl); (case hg => rfl); (case hr => first | (go_simp; done) | (go_simp; rfl)); intro gb390 hg w5 hbox hb; have n0_ := Aside0.mk (below_step (by repeat (first | (with_reducible first | exact HB.out | apply below_alloc | apply pw_below_drewN | apply below_drew1) | exact HB.out)) hb); have n1_ := Aside0.mk (hbox); have n2_ := Aside0.mk ((by rw [hg]; exact (below_size (by repeat (first | (with_reducible first | exact HB.out | apply below_alloc | apply pw_below_drewN | apply below_drew1) | exact HB.out))) : w.heap.size ≤ gb390)); have n3_ := Aside0.mk ((by rw [hg]; exact (below_size (by repeat (first | (with_reducible first | exact HB.out | apply below_alloc | apply pw_below_drewN | apply below_drew1) | exact HB.out))) : w.heap.size ≤ gb390)); clear HB; have HB := n0_; have BK390 := n1_; have GW390 := n2_; have GE390 := n3_; clear n0_ n1_ n2_ n3_; clear hb hbox hg; have hcz6_0 : w5.cell? ⟨gb390, 0, none⟩ = some (.int .i64 a0_0) := (blk_cell BK390.out 0).trans rfl; have hcz6_1 : w5.cell? ⟨gb390, 1, none⟩ = some (.slice A0_1 l0_1.length c0_1) := (blk_cell BK390.out 1).trans rfl; have hcz6_2 : w5.cell? ⟨gb390, 2, none⟩ = some (.slice A0_2 l0_2.length c0_2) := (blk_cell BK390.out 2).trans rfl; have hfz6_0 := blk_frozen BK390.out 0; have hfz6_1 := blk_frozen BK390.out 1; have hfz6_2 := blk_frozen BK390.out 2) | ((with_reducible refine gate_callee (f := 33) rfl ?_); refine goesL_ (some 10) rfl rfl Tryd.func33 (by kernel_rfl) rfl #[.int .i64 a0_0] rfl (by (try simp only [List.map_toArray, List.map_cons, List.map_nil]); first | done | rfl | (simp only [List.length_drop, List.length_take]; rfl)) ?_; (with_reducible refine (computusref26_Num.calls k a0_0 t391 _ A2.out).mono ?_); rintro e w' ⟨rfl, ⟨nd, rfl⟩⟩; refine ⟨_, rfl, ?_⟩))
   go_loopg [3, 4] k (fun kq v3 v4 w' => ∃ (x3_1 : ByteArray) (x4_1 : Int), v3 = .string x3_1 ∧ v4 = .int .i64 x4_1 ∧ Aside0 (computusref26_Print.l0 kq x3_1 x4_1 a0_0 l0_1 l0_2 = some r) ∧ Aside0 (kq ≤ k) ∧ Aside0 (w'.heap[gb390]? = some (.cells #[.int .i64 a0_0, (.slice A0_1 l0_1.length c0_1), (.slice A0_2 l0_2.length c0_2)] 26 (0, 0))) ∧ Aside0 (Below w.heap.size w w'))
   case atStart => exact ⟨(((⟨#[99, 97, 116, 97, 108, 111, 103, 117, 101, 10, 102, 114, 101, 101, 32]⟩ : ByteArray) ++ t391) ++ (⟨#[10]⟩ : ByteArray)), (0), (by first | rfl | (simp; done) | (simp [*]; done)), (by first | rfl | (simp; done) | (simp [*]; done)), H', ⟨Nat.le_refl _⟩, ⟨by (with_reducible repeat (first | refine blk_drewN ?_ _ | refine blk_drew ?_ | refine blk_alloc ?_ _)); exact BK390.out⟩, ⟨by repeat (first | (with_reducible first | exact HB.out | apply below_alloc | apply pw_below_drewN | apply below_drew1 | refine below_set ?_ GE390.out) | exact HB.out)⟩⟩
   case round =>
    clear H'
    try clear c1
    try clear p2
    try clear c3
    try clear c3b0
    try clear c3b1
    try clear c3b2
    try clear c4
    try clear c4b0
    try clear c4b1
    try clear c4b2
    try clear hcz6_0
    try clear hcz6_1
    try clear hcz6_2
    try clear hfz6_0
    try clear hfz6_1
    try clear hfz6_2
    obtain ⟨x3_1, x4_1, rfl, rfl, HA, HK1, BK390, HB⟩ := hrel
    cases gk with
    | zero => exact absurd HA.out (by simp [computusref26_Print.l0])
    | succ k1 =>
     have H := HA.out
     clear HA
     simp only [computusref26_Print.l0] at H
     by_cases c7 : x4_1 < (l0_1.length : Int)
     ·rw [if_pos c7] at H
      have c7b0 : decide (x4_1 < (l0_1.length : Int)) = true := decide_eq_true c7
      clear c7
      by_cases c8 : 0 ≤ x4_1
      ·rw [if_pos c8] at H
       have c8b0 : decide (0 ≤ x4_1) = true := decide_eq_true c8
       clear c8
       by_cases c9 : x3_1.size + 7 ≤ 9223372036854775807
       ·rw [if_pos c9] at H
        have c9b0 := eq_true c9
        have c9b1 : decide (x3_1.size + 7 ≤ 9223372036854775807) = true := decide_eq_true c9
        try have c9b2 : (9223372036854775807 < x3_1.size + 7) = False := eq_false (Nat.not_lt.2 c9)
        by_cases c10 : (x3_1 ++ (⟨#[115, 101, 97, 115, 111, 110, 32]⟩ : ByteArray)).size + ((rd_T41 l0_1 x4_1).f0).size ≤ 9223372036854775807
        ·rw [if_pos c10] at H
         have c10b0 := eq_true c10
         have c10b1 : decide ((x3_1 ++ (⟨#[115, 101, 97, 115, 111, 110, 32]⟩ : ByteArray)).size + ((rd_T41 l0_1 x4_1).f0).size ≤ 9223372036854775807) = true := decide_eq_true c10
         have c10e : x3_1.size + 7 + ((rd_T41 l0_1 x4_1).f0).size ≤ 9223372036854775807 := by have h_ := c10; simp only [ByteArray.size_append] at h_; exact h_
         have c10e0 := eq_true c10e
         have c10e1 : decide (x3_1.size + 7 + ((rd_T41 l0_1 x4_1).f0).size ≤ 9223372036854775807) = true := decide_eq_true c10e
         have c10e2 : (9223372036854775807 < x3_1.size + 7 + ((rd_T41 l0_1 x4_1).f0).size) = False := eq_false (Nat.not_lt.2 c10e)
         try have c10b2 : (9223372036854775807 < (x3_1 ++ (⟨#[115, 101, 97, 115, 111, 110, 32]⟩ : ByteArray)).size + ((rd_T41 l0_1 x4_1).f0).size) = False := eq_false (Nat.not_lt.2 c10)
         by_cases c11 : ((x3_1 ++ (⟨#[115, 101, 97, 115, 111, 110, 32]⟩ : ByteArray)) ++ ((rd_T41 l0_1 x4_1).f0)).size + 1 ≤ 9223372036854775807
         ·rw [if_pos c11] at H
          have c11b0 := eq_true c11
          have c11b1 : decide (((x3_1 ++ (⟨#[115, 101, 97, 115, 111, 110, 32]⟩ : ByteArray)) ++ ((rd_T41 l0_1 x4_1).f0)).size + 1 ≤ 9223372036854775807) = true := decide_eq_true c11
          have c11e : x3_1.size + 7 + (rd_T41 l0_1 x4_1).f0.size + 1 ≤ 9223372036854775807 := by have h_ := c11; simp only [ByteArray.size_append] at h_; exact h_
          have c11e0 := eq_true c11e
          have c11e1 : decide (x3_1.size + 7 + (rd_T41 l0_1 x4_1).f0.size + 1 ≤ 9223372036854775807) = true := decide_eq_true c11e
          have c11e2 : (9223372036854775807 < x3_1.size + 7 + (rd_T41 l0_1 x4_1).f0.size + 1) = False := eq_false (Nat.not_lt.2 c11e)
          try have c11b2 : (9223372036854775807 < ((x3_1 ++ (⟨#[115, 101, 97, 115, 111, 110, 32]⟩ : ByteArray)) ++ ((rd_T41 l0_1 x4_1).f0)).size + 1) = False := eq_false (Nat.not_lt.2 c11)
          replace H := Option.bind_eq_some_iff.mp H
          obtain ⟨t394, A120, H⟩ := H
          replace H : (if (((x3_1 ++ (⟨#[115, 101, 97, 115, 111, 110, 32]⟩ : ByteArray)) ++ ((rd_T41 l0_1 x4_1).f0)) ++ (⟨#[32]⟩ : ByteArray)).size + t394.size ≤ 9223372036854775807 then (if ((((x3_1 ++ (⟨#[115, 101, 97, 115, 111, 110, 32]⟩ : ByteArray)) ++ ((rd_T41 l0_1 x4_1).f0)) ++ (⟨#[32]⟩ : ByteArray)) ++ t394).size + 1 ≤ 9223372036854775807 then ((computusref26_Num.f k1 ((rd_T41 l0_1 x4_1).f2)).bind fun t395 => (if (((((x3_1 ++ (⟨#[115, 101, 97, 115, 111, 110, 32]⟩ : ByteArray)) ++ ((rd_T41 l0_1 x4_1).f0)) ++ (⟨#[32]⟩ : ByteArray)) ++ t394) ++ (⟨#[32]⟩ : ByteArray)).size + t395.size ≤ 9223372036854775807 then (if ((((((x3_1 ++ (⟨#[115, 101, 97, 115, 111, 110, 32]⟩ : ByteArray)) ++ ((rd_T41 l0_1 x4_1).f0)) ++ (⟨#[32]⟩ : ByteArray)) ++ t394) ++ (⟨#[32]⟩ : ByteArray)) ++ t395).size + 1 ≤ 9223372036854775807 then ((computusref26_anchor.f k1 ((rd_T41 l0_1 x4_1).f3.f0) ((rd_T41 l0_1 x4_1).f3.f1) ((rd_T41 l0_1 x4_1).f3.f2) ((rd_T41 l0_1 x4_1).f3.f3) ((rd_T41 l0_1 x4_1).f3.f4) ((rd_T41 l0_1 x4_1).f3.f5)).bind fun t396 => (if (((((((x3_1 ++ (⟨#[115, 101, 97, 115, 111, 110, 32]⟩ : ByteArray)) ++ ((rd_T41 l0_1 x4_1).f0)) ++ (⟨#[32]⟩ : ByteArray)) ++ t394) ++ (⟨#[32]⟩ : ByteArray)) ++ t395) ++ (⟨#[32]⟩ : ByteArray)).size + t396.size ≤ 9223372036854775807 then (if ((((((((x3_1 ++ (⟨#[115, 101, 97, 115, 111, 110, 32]⟩ : ByteArray)) ++ ((rd_T41 l0_1 x4_1).f0)) ++ (⟨#[32]⟩ : ByteArray)) ++ t394) ++ (⟨#[32]⟩ : ByteArray)) ++ t395) ++ (⟨#[32]⟩ : ByteArray)) ++ t396).size + 1 ≤ 9223372036854775807 then (computusref26_Print.l0 k1 (((((((((x3_1 ++ (⟨#[115, 101, 97, 115, 111, 110, 32]⟩ : ByteArray)) ++ ((rd_T41 l0_1 x4_1).f0)) ++ (⟨#[32]⟩ : ByteArray)) ++ t394) ++ (⟨#[32]⟩ : ByteArray)) ++ t395) ++ (⟨#[32]⟩ : ByteArray)) ++ t396) ++ (⟨#[10]⟩ : ByteArray)) (wrap64 (x4_1 + 1)) a0_0 l0_1 l0_2) else (none)) else (none))) else (none)) else (none))) else (none)) else (none)) = some r := H
          have A12 := Aside0.mk A120
          clear A120
          by_cases c13 : (((x3_1 ++ (⟨#[115, 101, 97, 115, 111, 110, 32]⟩ : ByteArray)) ++ ((rd_T41 l0_1 x4_1).f0)) ++ (⟨#[32]⟩ : ByteArray)).size + t394.size ≤ 9223372036854775807
          ·rw [if_pos c13] at H
           have c13b0 := eq_true c13
           have c13b1 : decide ((((x3_1 ++ (⟨#[115, 101, 97, 115, 111, 110, 32]⟩ : ByteArray)) ++ ((rd_T41 l0_1 x4_1).f0)) ++ (⟨#[32]⟩ : ByteArray)).size + t394.size ≤ 9223372036854775807) = true := decide_eq_true c13
           have c13e : x3_1.size + 7 + (rd_T41 l0_1 x4_1).f0.size + 1 + t394.size ≤ 9223372036854775807 := by have h_ := c13; simp only [ByteArray.size_append] at h_; exact h_
           have c13e0 := eq_true c13e
           have c13e1 : decide (x3_1.size + 7 + (rd_T41 l0_1 x4_1).f0.size + 1 + t394.size ≤ 9223372036854775807) = true := decide_eq_true c13e
           have c13e2 : (9223372036854775807 < x3_1.size + 7 + (rd_T41 l0_1 x4_1).f0.size + 1 + t394.size) = False := eq_false (Nat.not_lt.2 c13e)
           try have c13b2 : (9223372036854775807 < (((x3_1 ++ (⟨#[115, 101, 97, 115, 111, 110, 32]⟩ : ByteArray)) ++ ((rd_T41 l0_1 x4_1).f0)) ++ (⟨#[32]⟩ : ByteArray)).size + t394.size) = False := eq_false (Nat.not_lt.2 c13)
           by_cases c14 : ((((x3_1 ++ (⟨#[115, 101, 97, 115, 111, 110, 32]⟩ : ByteArray)) ++ ((rd_T41 l0_1 x4_1).f0)) ++ (⟨#[32]⟩ : ByteArray)) ++ t394).size + 1 ≤ 9223372036854775807
           ·rw [if_pos c14] at H
            have c14b0 := eq_true c14
            have c14b1 : decide (((((x3_1 ++ (⟨#[115, 101, 97, 115, 111, 110, 32]⟩ : ByteArray)) ++ ((rd_T41 l0_1 x4_1).f0)) ++ (⟨#[32]⟩ : ByteArray)) ++ t394).size + 1 ≤ 9223372036854775807) = true := decide_eq_true c14
            have c14e : x3_1.size + 7 + (rd_T41 l0_1 x4_1).f0.size + 1 + t394.size + 1 ≤ 9223372036854775807 := by have h_ := c14; simp only [ByteArray.size_append] at h_; exact h_
            have c14e0 := eq_true c14e
            have c14e1 : decide (x3_1.size + 7 + (rd_T41 l0_1 x4_1).f0.size + 1 + t394.size + 1 ≤ 9223372036854775807) = true := decide_eq_true c14e
            have c14e2 : (9223372036854775807 < x3_1.size + 7 + (rd_T41 l0_1 x4_1).f0.size + 1 + t394.size + 1) = False := eq_false (Nat.not_lt.2 c14e)
            try have c14b2 : (9223372036854775807 < ((((x3_1 ++ (⟨#[115, 101, 97, 115, 111, 110, 32]⟩ : ByteArray)) ++ ((rd_T41 l0_1 x4_1).f0)) ++ (⟨#[32]⟩ : ByteArray)) ++ t394).size + 1) = False := eq_false (Nat.not_lt.2 c14)
            replace H := Option.bind_eq_some_iff.mp H
            obtain ⟨t395, A150, H⟩ := H
            replace H : (if (((((x3_1 ++ (⟨#[115, 101, 97, 115, 111, 110, 32]⟩ : ByteArray)) ++ ((rd_T41 l0_1 x4_1).f0)) ++ (⟨#[32]⟩ : ByteArray)) ++ t394) ++ (⟨#[32]⟩ : ByteArray)).size + t395.size ≤ 9223372036854775807 then (if ((((((x3_1 ++ (⟨#[115, 101, 97, 115, 111, 110, 32]⟩ : ByteArray)) ++ ((rd_T41 l0_1 x4_1).f0)) ++ (⟨#[32]⟩ : ByteArray)) ++ t394) ++ (⟨#[32]⟩ : ByteArray)) ++ t395).size + 1 ≤ 9223372036854775807 then ((computusref26_anchor.f k1 ((rd_T41 l0_1 x4_1).f3.f0) ((rd_T41 l0_1 x4_1).f3.f1) ((rd_T41 l0_1 x4_1).f3.f2) ((rd_T41 l0_1 x4_1).f3.f3) ((rd_T41 l0_1 x4_1).f3.f4) ((rd_T41 l0_1 x4_1).f3.f5)).bind fun t396 => (if (((((((x3_1 ++ (⟨#[115, 101, 97, 115, 111, 110, 32]⟩ : ByteArray)) ++ ((rd_T41 l0_1 x4_1).f0)) ++ (⟨#[32]⟩ : ByteArray)) ++ t394) ++ (⟨#[32]⟩ : ByteArray)) ++ t395) ++ (⟨#[32]⟩ : ByteArray)).size + t396.size ≤ 9223372036854775807 then (if ((((((((x3_1 ++ (⟨#[115, 101, 97, 115, 111, 110, 32]⟩ : ByteArray)) ++ ((rd_T41 l0_1 x4_1).f0)) ++ (⟨#[32]⟩ : ByteArray)) ++ t394) ++ (⟨#[32]⟩ : ByteArray)) ++ t395) ++ (⟨#[32]⟩ : ByteArray)) ++ t396).size + 1 ≤ 9223372036854775807 then (computusref26_Print.l0 k1 (((((((((x3_1 ++ (⟨#[115, 101, 97, 115, 111, 110, 32]⟩ : ByteArray)) ++ ((rd_T41 l0_1 x4_1).f0)) ++ (⟨#[32]⟩ : ByteArray)) ++ t394) ++ (⟨#[32]⟩ : ByteArray)) ++ t395) ++ (⟨#[32]⟩ : ByteArray)) ++ t396) ++ (⟨#[10]⟩ : ByteArray)) (wrap64 (x4_1 + 1)) a0_0 l0_1 l0_2) else (none)) else (none))) else (none)) else (none)) = some r := H
            have A15 := Aside0.mk A150
            clear A150
            by_cases c16 : (((((x3_1 ++ (⟨#[115, 101, 97, 115, 111, 110, 32]⟩ : ByteArray)) ++ ((rd_T41 l0_1 x4_1).f0)) ++ (⟨#[32]⟩ : ByteArray)) ++ t394) ++ (⟨#[32]⟩ : ByteArray)).size + t395.size ≤ 9223372036854775807
            ·rw [if_pos c16] at H
             have c16b0 := eq_true c16
             have c16b1 : decide ((((((x3_1 ++ (⟨#[115, 101, 97, 115, 111, 110, 32]⟩ : ByteArray)) ++ ((rd_T41 l0_1 x4_1).f0)) ++ (⟨#[32]⟩ : ByteArray)) ++ t394) ++ (⟨#[32]⟩ : ByteArray)).size + t395.size ≤ 9223372036854775807) = true := decide_eq_true c16
             have c16e : x3_1.size + 7 + (rd_T41 l0_1 x4_1).f0.size + 1 + t394.size + 1 + t395.size ≤ 9223372036854775807 := by have h_ := c16; simp only [ByteArray.size_append] at h_; exact h_
             have c16e0 := eq_true c16e
             have c16e1 : decide (x3_1.size + 7 + (rd_T41 l0_1 x4_1).f0.size + 1 + t394.size + 1 + t395.size ≤ 9223372036854775807) = true := decide_eq_true c16e
             have c16e2 : (9223372036854775807 < x3_1.size + 7 + (rd_T41 l0_1 x4_1).f0.size + 1 + t394.size + 1 + t395.size) = False := eq_false (Nat.not_lt.2 c16e)
             try have c16b2 : (9223372036854775807 < (((((x3_1 ++ (⟨#[115, 101, 97, 115, 111, 110, 32]⟩ : ByteArray)) ++ ((rd_T41 l0_1 x4_1).f0)) ++ (⟨#[32]⟩ : ByteArray)) ++ t394) ++ (⟨#[32]⟩ : ByteArray)).size + t395.size) = False := eq_false (Nat.not_lt.2 c16)
             by_cases c17 : ((((((x3_1 ++ (⟨#[115, 101, 97, 115, 111, 110, 32]⟩ : ByteArray)) ++ ((rd_T41 l0_1 x4_1).f0)) ++ (⟨#[32]⟩ : ByteArray)) ++ t394) ++ (⟨#[32]⟩ : ByteArray)) ++ t395).size + 1 ≤ 9223372036854775807
             ·rw [if_pos c17] at H
              have c17b0 := eq_true c17
              have c17b1 : decide (((((((x3_1 ++ (⟨#[115, 101, 97, 115, 111, 110, 32]⟩ : ByteArray)) ++ ((rd_T41 l0_1 x4_1).f0)) ++ (⟨#[32]⟩ : ByteArray)) ++ t394) ++ (⟨#[32]⟩ : ByteArray)) ++ t395).size + 1 ≤ 9223372036854775807) = true := decide_eq_true c17
              have c17e : x3_1.size + 7 + (rd_T41 l0_1 x4_1).f0.size + 1 + t394.size + 1 + t395.size + 1 ≤ 9223372036854775807 := by have h_ := c17; simp only [ByteArray.size_append] at h_; exact h_
              have c17e0 := eq_true c17e
              have c17e1 : decide (x3_1.size + 7 + (rd_T41 l0_1 x4_1).f0.size + 1 + t394.size + 1 + t395.size + 1 ≤ 9223372036854775807) = true := decide_eq_true c17e
              have c17e2 : (9223372036854775807 < x3_1.size + 7 + (rd_T41 l0_1 x4_1).f0.size + 1 + t394.size + 1 + t395.size + 1) = False := eq_false (Nat.not_lt.2 c17e)
              try have c17b2 : (9223372036854775807 < ((((((x3_1 ++ (⟨#[115, 101, 97, 115, 111, 110, 32]⟩ : ByteArray)) ++ ((rd_T41 l0_1 x4_1).f0)) ++ (⟨#[32]⟩ : ByteArray)) ++ t394) ++ (⟨#[32]⟩ : ByteArray)) ++ t395).size + 1) = False := eq_false (Nat.not_lt.2 c17)
              replace H := Option.bind_eq_some_iff.mp H
              obtain ⟨t396, A180, H⟩ := H
              replace H : (if (((((((x3_1 ++ (⟨#[115, 101, 97, 115, 111, 110, 32]⟩ : ByteArray)) ++ ((rd_T41 l0_1 x4_1).f0)) ++ (⟨#[32]⟩ : ByteArray)) ++ t394) ++ (⟨#[32]⟩ : ByteArray)) ++ t395) ++ (⟨#[32]⟩ : ByteArray)).size + t396.size ≤ 9223372036854775807 then (if ((((((((x3_1 ++ (⟨#[115, 101, 97, 115, 111, 110, 32]⟩ : ByteArray)) ++ ((rd_T41 l0_1 x4_1).f0)) ++ (⟨#[32]⟩ : ByteArray)) ++ t394) ++ (⟨#[32]⟩ : ByteArray)) ++ t395) ++ (⟨#[32]⟩ : ByteArray)) ++ t396).size + 1 ≤ 9223372036854775807 then (computusref26_Print.l0 k1 (((((((((x3_1 ++ (⟨#[115, 101, 97, 115, 111, 110, 32]⟩ : ByteArray)) ++ ((rd_T41 l0_1 x4_1).f0)) ++ (⟨#[32]⟩ : ByteArray)) ++ t394) ++ (⟨#[32]⟩ : ByteArray)) ++ t395) ++ (⟨#[32]⟩ : ByteArray)) ++ t396) ++ (⟨#[10]⟩ : ByteArray)) (wrap64 (x4_1 + 1)) a0_0 l0_1 l0_2) else (none)) else (none)) = some r := H
              have A18 := Aside0.mk A180
              clear A180
              by_cases c19 : (((((((x3_1 ++ (⟨#[115, 101, 97, 115, 111, 110, 32]⟩ : ByteArray)) ++ ((rd_T41 l0_1 x4_1).f0)) ++ (⟨#[32]⟩ : ByteArray)) ++ t394) ++ (⟨#[32]⟩ : ByteArray)) ++ t395) ++ (⟨#[32]⟩ : ByteArray)).size + t396.size ≤ 9223372036854775807
              ·rw [if_pos c19] at H
               have c19b0 := eq_true c19
               have c19b1 : decide ((((((((x3_1 ++ (⟨#[115, 101, 97, 115, 111, 110, 32]⟩ : ByteArray)) ++ ((rd_T41 l0_1 x4_1).f0)) ++ (⟨#[32]⟩ : ByteArray)) ++ t394) ++ (⟨#[32]⟩ : ByteArray)) ++ t395) ++ (⟨#[32]⟩ : ByteArray)).size + t396.size ≤ 9223372036854775807) = true := decide_eq_true c19
               have c19e : x3_1.size + 7 + (rd_T41 l0_1 x4_1).f0.size + 1 + t394.size + 1 + t395.size + 1 + t396.size ≤ 9223372036854775807 := by have h_ := c19; simp only [ByteArray.size_append] at h_; exact h_
               have c19e0 := eq_true c19e
               have c19e1 : decide (x3_1.size + 7 + (rd_T41 l0_1 x4_1).f0.size + 1 + t394.size + 1 + t395.size + 1 + t396.size ≤ 9223372036854775807) = true := decide_eq_true c19e
               have c19e2 : (9223372036854775807 < x3_1.size + 7 + (rd_T41 l0_1 x4_1).f0.size + 1 + t394.size + 1 + t395.size + 1 + t396.size) = False := eq_false (Nat.not_lt.2 c19e)
               try have c19b2 : (9223372036854775807 < (((((((x3_1 ++ (⟨#[115, 101, 97, 115, 111, 110, 32]⟩ : ByteArray)) ++ ((rd_T41 l0_1 x4_1).f0)) ++ (⟨#[32]⟩ : ByteArray)) ++ t394) ++ (⟨#[32]⟩ : ByteArray)) ++ t395) ++ (⟨#[32]⟩ : ByteArray)).size + t396.size) = False := eq_false (Nat.not_lt.2 c19)
               by_cases c20 : ((((((((x3_1 ++ (⟨#[115, 101, 97, 115, 111, 110, 32]⟩ : ByteArray)) ++ ((rd_T41 l0_1 x4_1).f0)) ++ (⟨#[32]⟩ : ByteArray)) ++ t394) ++ (⟨#[32]⟩ : ByteArray)) ++ t395) ++ (⟨#[32]⟩ : ByteArray)) ++ t396).size + 1 ≤ 9223372036854775807
               ·rw [if_pos c20] at H
                have c20b0 := eq_true c20
                have c20b1 : decide (((((((((x3_1 ++ (⟨#[115, 101, 97, 115, 111, 110, 32]⟩ : ByteArray)) ++ ((rd_T41 l0_1 x4_1).f0)) ++ (⟨#[32]⟩ : ByteArray)) ++ t394) ++ (⟨#[32]⟩ : ByteArray)) ++ t395) ++ (⟨#[32]⟩ : ByteArray)) ++ t396).size + 1 ≤ 9223372036854775807) = true := decide_eq_true c20
                have c20e : x3_1.size + 7 + (rd_T41 l0_1 x4_1).f0.size + 1 + t394.size + 1 + t395.size + 1 + t396.size + 1 ≤ 9223372036854775807 := by have h_ := c20; simp only [ByteArray.size_append] at h_; exact h_
                have c20e0 := eq_true c20e
                have c20e1 : decide (x3_1.size + 7 + (rd_T41 l0_1 x4_1).f0.size + 1 + t394.size + 1 + t395.size + 1 + t396.size + 1 ≤ 9223372036854775807) = true := decide_eq_true c20e
                have c20e2 : (9223372036854775807 < x3_1.size + 7 + (rd_T41 l0_1 x4_1).f0.size + 1 + t394.size + 1 + t395.size + 1 + t396.size + 1) = False := eq_false (Nat.not_lt.2 c20e)
                try have c20b2 : (9223372036854775807 < ((((((((x3_1 ++ (⟨#[115, 101, 97, 115, 111, 110, 32]⟩ : ByteArray)) ++ ((rd_T41 l0_1 x4_1).f0)) ++ (⟨#[32]⟩ : ByteArray)) ++ t394) ++ (⟨#[32]⟩ : ByteArray)) ++ t395) ++ (⟨#[32]⟩ : ByteArray)) ++ t396).size + 1) = False := eq_false (Nat.not_lt.2 c20)
                have H' := Aside0.mk H
                clear H
                have hcz21_0 : wr.cell? ⟨gb390, 0, none⟩ = some (.int .i64 a0_0) := (blk_cell BK390.out 0).trans rfl
                have hcz21_1 : wr.cell? ⟨gb390, 1, none⟩ = some (.slice A0_1 l0_1.length c0_1) := (blk_cell BK390.out 1).trans rfl
                have hcz21_2 : wr.cell? ⟨gb390, 2, none⟩ = some (.slice A0_2 l0_2.length c0_2) := (blk_cell BK390.out 2).trans rfl
                have hfz21_0 := blk_frozen BK390.out 0
                have hfz21_1 := blk_frozen BK390.out 1
                have hfz21_2 := blk_frozen BK390.out 2
                have p392 : 0 ≤ (x4_1 : Int) := of_decide_eq_true (by first | (with_reducible assumption) | assumption)
                have q392 : x4_1 < (l0_1.length : Int) := of_decide_eq_true (by first | (with_reducible assumption) | assumption)
                obtain ⟨ad392, e392, hx392_0, hx392_1, hx392_2, hx392_3, hx392_4, hx392_5, hx392_6, hx392_7, hx392_8⟩ := at_T41 HR0_1.out x4_1 p392 q392
                cases e392
                replace hx392_0 := (HB.out.cell (World.block_lt_of_cell? w _ hx392_0)).trans hx392_0
                replace hx392_1 := (HB.out.cell (World.block_lt_of_cell? w _ hx392_1)).trans hx392_1
                replace hx392_2 := (HB.out.cell (World.block_lt_of_cell? w _ hx392_2)).trans hx392_2
                replace hx392_3 := (HB.out.cell (World.block_lt_of_cell? w _ hx392_3)).trans hx392_3
                replace hx392_4 := (HB.out.cell (World.block_lt_of_cell? w _ hx392_4)).trans hx392_4
                replace hx392_5 := (HB.out.cell (World.block_lt_of_cell? w _ hx392_5)).trans hx392_5
                replace hx392_6 := (HB.out.cell (World.block_lt_of_cell? w _ hx392_6)).trans hx392_6
                replace hx392_7 := (HB.out.cell (World.block_lt_of_cell? w _ hx392_7)).trans hx392_7
                replace hx392_8 := (HB.out.cell (World.block_lt_of_cell? w _ hx392_8)).trans hx392_8
                replace p392 := eq_true p392
                replace q392 := eq_true q392
                try go_wp2_with (first | ((with_reducible refine gate_dst (N := 5) rfl ?_); refine box_event ?hg (N := 5) ?hd (cs := #[.string (⟨#[]⟩ : ByteArray), .int .i64 0, .int .i64 0, .int .i64 0, .int .i64 0, .int .i64 0, .int .i64 0, .int .i64 0, .int .i64 0]) (t := 41) ?hr ?_; (case hd => rfl); (case hg => rfl); (case hr => first | (go_simp; done) | (go_simp; rfl)); intro gb393 hg w22 hbox hb; have n0_ := Aside0.mk (blk_below (g := gb390) (o := .cells #[.int .i64 a0_0, .slice (some ad392) l0_1.length c0_1, .slice A0_2 l0_2.length c0_2] 26 (0, 0)) (by (with_reducible repeat (first | refine blk_drewN ?_ _ | refine blk_drew ?_ | refine blk_alloc ?_ _)); exact BK390.out) hb); have n1_ := Aside0.mk (below_step (by repeat (first | (with_reducible first | exact HB.out | apply below_alloc | apply pw_below_drewN | apply below_drew1 | refine below_set ?_ GE390.out) | exact HB.out)) hb); have n2_ := Aside0.mk (hbox); have n3_ := Aside0.mk ((by rw [hg]; exact (below_size (by repeat (first | (with_reducible first | exact HB.out | apply below_alloc | apply pw_below_drewN | apply below_drew1 | refine below_set ?_ GE390.out) | exact HB.out))) : w.heap.size ≤ gb393)); have n4_ := Aside0.mk ((by rw [hg]; exact (below_size (by repeat (first | (with_reducible first | exact HB.out | apply below_alloc | apply pw_below_drewN | apply below_drew1 | refine below_set ?_ GE390.out) | exact HB.out))) : w.heap.size ≤ gb393)); have n5_ := Aside0.mk ((by rw [hg]; exact Nat.ne_of_lt (blk_lt (g := gb390) (o := .cells #[.int .i64 a0_0, .slice (some ad392) l0_1.length c0_1, .slice A0_2 l0_2.length c0_2] 26 (0, 0)) (by (with_reducible repeat (first | refine blk_drewN ?_ _ | refine blk_drew ?_ | refine blk_alloc ?_ _)); exact BK390.out)) : gb390 ≠ gb393)); have n6_ := Aside0.mk ((by rw [hg]; exact Nat.ne_of_gt (blk_lt (g := gb390) (o := .cells #[.int .i64 a0_0, .slice (some ad392) l0_1.length c0_1, .slice A0_2 l0_2.length c0_2] 26 (0, 0)) (by (with_reducible repeat (first | refine blk_drewN ?_ _ | refine blk_drew ?_ | refine blk_alloc ?_ _)); exact BK390.out)) : gb393 ≠ gb390)); clear BK390; clear HB; have BK390 := n0_; have HB := n1_; have BK393 := n2_; have GW393 := n3_; have GE393 := n4_; have NB390_393 := n5_; have NB393_390 := n6_; clear n0_ n1_ n2_ n3_ n4_ n5_ n6_; clear hb hbox hg; have hnb23 := NB393_390.out; have hnc23 := NB390_393.out; have hcz24_0 : w22.cell? ⟨gb393, 0, none⟩ = some (.string (⟨#[]⟩ : ByteArray)) := (blk_cell BK393.out 0).trans rfl; have hcz24_1 : w22.cell? ⟨gb393, 1, none⟩ = some (.int .i64 0) := (blk_cell BK393.out 1).trans rfl; have hcz24_2 : w22.cell? ⟨gb393, 2, none⟩ = some (.int .i64 0) := (blk_cell BK393.out 2).trans rfl; have hcz24_3 : w22.cell? ⟨gb393, 3, none⟩ = some (.int .i64 0) := (blk_cell BK393.out 3).trans rfl; have hcz24_4 : w22.cell? ⟨gb393, 4, none⟩ = some (.int .i64 0) := (blk_cell BK393.out 4).trans rfl; have hcz24_5 : w22.cell? ⟨gb393, 5, none⟩ = some (.int .i64 0) := (blk_cell BK393.out 5).trans rfl; have hcz24_6 : w22.cell? ⟨gb393, 6, none⟩ = some (.int .i64 0) := (blk_cell BK393.out 6).trans rfl; have hcz24_7 : w22.cell? ⟨gb393, 7, none⟩ = some (.int .i64 0) := (blk_cell BK393.out 7).trans rfl; have hcz24_8 : w22.cell? ⟨gb393, 8, none⟩ = some (.int .i64 0) := (blk_cell BK393.out 8).trans rfl; have hfz24_0 := blk_frozen BK393.out 0; have hfz24_1 := blk_frozen BK393.out 1; have hfz24_2 := blk_frozen BK393.out 2; have hfz24_3 := blk_frozen BK393.out 3; have hfz24_4 := blk_frozen BK393.out 4; have hfz24_5 := blk_frozen BK393.out 5; have hfz24_6 := blk_frozen BK393.out 6; have hfz24_7 := blk_frozen BK393.out 7; have hfz24_8 := blk_frozen BK393.out 8))
                have n0_ : Aside0 ((((((((((w22.setCell ⟨gb393, 0, none⟩ (.string ((rd_T41 l0_1 x4_1).f0))).setCell ⟨gb393, 1, none⟩ (.int .i64 ((rd_T41 l0_1 x4_1).f1))).setCell ⟨gb393, 2, none⟩ (.int .i64 ((rd_T41 l0_1 x4_1).f2))).setCell ⟨gb393, 3, none⟩ (.int .i64 ((rd_T41 l0_1 x4_1).f3.f0))).setCell ⟨gb393, 4, none⟩ (.int .i64 ((rd_T41 l0_1 x4_1).f3.f1))).setCell ⟨gb393, 5, none⟩ (.int .i64 ((rd_T41 l0_1 x4_1).f3.f2))).setCell ⟨gb393, 6, none⟩ (.int .i64 ((rd_T41 l0_1 x4_1).f3.f3))).setCell ⟨gb393, 7, none⟩ (.int .i64 ((rd_T41 l0_1 x4_1).f3.f4))).setCell ⟨gb393, 8, none⟩ (.int .i64 ((rd_T41 l0_1 x4_1).f3.f5))).heap[gb390]? = some (.cells #[.int .i64 a0_0, .slice (some ad392) l0_1.length c0_1, .slice A0_2 l0_2.length c0_2] 26 (0, 0))) := ⟨by (with_reducible repeat (first | refine blk_drewN ?_ _ | refine blk_drew ?_ | refine blk_alloc ?_ _)); refine blk_far ?_ NB390_393.out _; (with_reducible repeat (first | refine blk_drewN ?_ _ | refine blk_drew ?_ | refine blk_alloc ?_ _)); refine blk_far ?_ NB390_393.out _; (with_reducible repeat (first | refine blk_drewN ?_ _ | refine blk_drew ?_ | refine blk_alloc ?_ _)); refine blk_far ?_ NB390_393.out _; (with_reducible repeat (first | refine blk_drewN ?_ _ | refine blk_drew ?_ | refine blk_alloc ?_ _)); refine blk_far ?_ NB390_393.out _; (with_reducible repeat (first | refine blk_drewN ?_ _ | refine blk_drew ?_ | refine blk_alloc ?_ _)); refine blk_far ?_ NB390_393.out _; (with_reducible repeat (first | refine blk_drewN ?_ _ | refine blk_drew ?_ | refine blk_alloc ?_ _)); refine blk_far ?_ NB390_393.out _; (with_reducible repeat (first | refine blk_drewN ?_ _ | refine blk_drew ?_ | refine blk_alloc ?_ _)); refine blk_far ?_ NB390_393.out _; (with_reducible repeat (first | refine blk_drewN ?_ _ | refine blk_drew ?_ | refine blk_alloc ?_ _)); refine blk_far ?_ NB390_393.out _; (with_reducible repeat (first | refine blk_drewN ?_ _ | refine blk_drew ?_ | refine blk_alloc ?_ _)); refine blk_far ?_ NB390_393.out _; (with_reducible repeat (first | refine blk_drewN ?_ _ | refine blk_drew ?_ | refine blk_alloc ?_ _)); exact BK390.out⟩
                have n1_ : Aside0 ((((((((((w22.setCell ⟨gb393, 0, none⟩ (.string ((rd_T41 l0_1 x4_1).f0))).setCell ⟨gb393, 1, none⟩ (.int .i64 ((rd_T41 l0_1 x4_1).f1))).setCell ⟨gb393, 2, none⟩ (.int .i64 ((rd_T41 l0_1 x4_1).f2))).setCell ⟨gb393, 3, none⟩ (.int .i64 ((rd_T41 l0_1 x4_1).f3.f0))).setCell ⟨gb393, 4, none⟩ (.int .i64 ((rd_T41 l0_1 x4_1).f3.f1))).setCell ⟨gb393, 5, none⟩ (.int .i64 ((rd_T41 l0_1 x4_1).f3.f2))).setCell ⟨gb393, 6, none⟩ (.int .i64 ((rd_T41 l0_1 x4_1).f3.f3))).setCell ⟨gb393, 7, none⟩ (.int .i64 ((rd_T41 l0_1 x4_1).f3.f4))).setCell ⟨gb393, 8, none⟩ (.int .i64 ((rd_T41 l0_1 x4_1).f3.f5))).heap[gb393]? = some (.cells #[.string ((rd_T41 l0_1 x4_1).f0), .int .i64 ((rd_T41 l0_1 x4_1).f1), .int .i64 ((rd_T41 l0_1 x4_1).f2), .int .i64 ((rd_T41 l0_1 x4_1).f3.f0), .int .i64 ((rd_T41 l0_1 x4_1).f3.f1), .int .i64 ((rd_T41 l0_1 x4_1).f3.f2), .int .i64 ((rd_T41 l0_1 x4_1).f3.f3), .int .i64 ((rd_T41 l0_1 x4_1).f3.f4), .int .i64 ((rd_T41 l0_1 x4_1).f3.f5)] 41 (0, 0))) := ⟨by (with_reducible repeat (first | refine blk_drewN ?_ _ | refine blk_drew ?_ | refine blk_alloc ?_ _)); refine blk_put (cs := #[.string ((rd_T41 l0_1 x4_1).f0), .int .i64 ((rd_T41 l0_1 x4_1).f1), .int .i64 ((rd_T41 l0_1 x4_1).f2), .int .i64 ((rd_T41 l0_1 x4_1).f3.f0), .int .i64 ((rd_T41 l0_1 x4_1).f3.f1), .int .i64 ((rd_T41 l0_1 x4_1).f3.f2), .int .i64 ((rd_T41 l0_1 x4_1).f3.f3), .int .i64 ((rd_T41 l0_1 x4_1).f3.f4), .int .i64 0]) ?_ 8 _ rfl; (with_reducible repeat (first | refine blk_drewN ?_ _ | refine blk_drew ?_ | refine blk_alloc ?_ _)); refine blk_put (cs := #[.string ((rd_T41 l0_1 x4_1).f0), .int .i64 ((rd_T41 l0_1 x4_1).f1), .int .i64 ((rd_T41 l0_1 x4_1).f2), .int .i64 ((rd_T41 l0_1 x4_1).f3.f0), .int .i64 ((rd_T41 l0_1 x4_1).f3.f1), .int .i64 ((rd_T41 l0_1 x4_1).f3.f2), .int .i64 ((rd_T41 l0_1 x4_1).f3.f3), .int .i64 0, .int .i64 0]) ?_ 7 _ rfl; (with_reducible repeat (first | refine blk_drewN ?_ _ | refine blk_drew ?_ | refine blk_alloc ?_ _)); refine blk_put (cs := #[.string ((rd_T41 l0_1 x4_1).f0), .int .i64 ((rd_T41 l0_1 x4_1).f1), .int .i64 ((rd_T41 l0_1 x4_1).f2), .int .i64 ((rd_T41 l0_1 x4_1).f3.f0), .int .i64 ((rd_T41 l0_1 x4_1).f3.f1), .int .i64 ((rd_T41 l0_1 x4_1).f3.f2), .int .i64 0, .int .i64 0, .int .i64 0]) ?_ 6 _ rfl; (with_reducible repeat (first | refine blk_drewN ?_ _ | refine blk_drew ?_ | refine blk_alloc ?_ _)); refine blk_put (cs := #[.string ((rd_T41 l0_1 x4_1).f0), .int .i64 ((rd_T41 l0_1 x4_1).f1), .int .i64 ((rd_T41 l0_1 x4_1).f2), .int .i64 ((rd_T41 l0_1 x4_1).f3.f0), .int .i64 ((rd_T41 l0_1 x4_1).f3.f1), .int .i64 0, .int .i64 0, .int .i64 0, .int .i64 0]) ?_ 5 _ rfl; (with_reducible repeat (first | refine blk_drewN ?_ _ | refine blk_drew ?_ | refine blk_alloc ?_ _)); refine blk_put (cs := #[.string ((rd_T41 l0_1 x4_1).f0), .int .i64 ((rd_T41 l0_1 x4_1).f1), .int .i64 ((rd_T41 l0_1 x4_1).f2), .int .i64 ((rd_T41 l0_1 x4_1).f3.f0), .int .i64 0, .int .i64 0, .int .i64 0, .int .i64 0, .int .i64 0]) ?_ 4 _ rfl; (with_reducible repeat (first | refine blk_drewN ?_ _ | refine blk_drew ?_ | refine blk_alloc ?_ _)); refine blk_put (cs := #[.string ((rd_T41 l0_1 x4_1).f0), .int .i64 ((rd_T41 l0_1 x4_1).f1), .int .i64 ((rd_T41 l0_1 x4_1).f2), .int .i64 0, .int .i64 0, .int .i64 0, .int .i64 0, .int .i64 0, .int .i64 0]) ?_ 3 _ rfl; (with_reducible repeat (first | refine blk_drewN ?_ _ | refine blk_drew ?_ | refine blk_alloc ?_ _)); refine blk_put (cs := #[.string ((rd_T41 l0_1 x4_1).f0), .int .i64 ((rd_T41 l0_1 x4_1).f1), .int .i64 0, .int .i64 0, .int .i64 0, .int .i64 0, .int .i64 0, .int .i64 0, .int .i64 0]) ?_ 2 _ rfl; (with_reducible repeat (first | refine blk_drewN ?_ _ | refine blk_drew ?_ | refine blk_alloc ?_ _)); refine blk_put (cs := #[.string ((rd_T41 l0_1 x4_1).f0), .int .i64 0, .int .i64 0, .int .i64 0, .int .i64 0, .int .i64 0, .int .i64 0, .int .i64 0, .int .i64 0]) ?_ 1 _ rfl; (with_reducible repeat (first | refine blk_drewN ?_ _ | refine blk_drew ?_ | refine blk_alloc ?_ _)); refine blk_put (cs := #[.string (⟨#[]⟩ : ByteArray), .int .i64 0, .int .i64 0, .int .i64 0, .int .i64 0, .int .i64 0, .int .i64 0, .int .i64 0, .int .i64 0]) ?_ 0 _ rfl; (with_reducible repeat (first | refine blk_drewN ?_ _ | refine blk_drew ?_ | refine blk_alloc ?_ _)); exact BK393.out⟩
                have n2_ : Aside0 (Below w.heap.size w (((((((((w22.setCell ⟨gb393, 0, none⟩ (.string ((rd_T41 l0_1 x4_1).f0))).setCell ⟨gb393, 1, none⟩ (.int .i64 ((rd_T41 l0_1 x4_1).f1))).setCell ⟨gb393, 2, none⟩ (.int .i64 ((rd_T41 l0_1 x4_1).f2))).setCell ⟨gb393, 3, none⟩ (.int .i64 ((rd_T41 l0_1 x4_1).f3.f0))).setCell ⟨gb393, 4, none⟩ (.int .i64 ((rd_T41 l0_1 x4_1).f3.f1))).setCell ⟨gb393, 5, none⟩ (.int .i64 ((rd_T41 l0_1 x4_1).f3.f2))).setCell ⟨gb393, 6, none⟩ (.int .i64 ((rd_T41 l0_1 x4_1).f3.f3))).setCell ⟨gb393, 7, none⟩ (.int .i64 ((rd_T41 l0_1 x4_1).f3.f4))).setCell ⟨gb393, 8, none⟩ (.int .i64 ((rd_T41 l0_1 x4_1).f3.f5)))) := ⟨by repeat (first | (with_reducible first | exact HB.out | apply below_alloc | apply pw_below_drewN | apply below_drew1 | refine below_set ?_ GE390.out | refine below_set ?_ GE393.out) | exact HB.out)⟩
                (try clear BK390)
                (try clear BK393)
                (try clear HB)
                generalize (((((((((w22.setCell ⟨gb393, 0, none⟩ (.string ((rd_T41 l0_1 x4_1).f0))).setCell ⟨gb393, 1, none⟩ (.int .i64 ((rd_T41 l0_1 x4_1).f1))).setCell ⟨gb393, 2, none⟩ (.int .i64 ((rd_T41 l0_1 x4_1).f2))).setCell ⟨gb393, 3, none⟩ (.int .i64 ((rd_T41 l0_1 x4_1).f3.f0))).setCell ⟨gb393, 4, none⟩ (.int .i64 ((rd_T41 l0_1 x4_1).f3.f1))).setCell ⟨gb393, 5, none⟩ (.int .i64 ((rd_T41 l0_1 x4_1).f3.f2))).setCell ⟨gb393, 6, none⟩ (.int .i64 ((rd_T41 l0_1 x4_1).f3.f3))).setCell ⟨gb393, 7, none⟩ (.int .i64 ((rd_T41 l0_1 x4_1).f3.f4))).setCell ⟨gb393, 8, none⟩ (.int .i64 ((rd_T41 l0_1 x4_1).f3.f5))) = w25 at n0_ n1_ n2_ ⊢
                have BK390 := n0_
                have BK393 := n1_
                have HB := n2_
                clear n0_ n1_ n2_
                have n0_ := Aside0.mk (blk_drew BK390.out)
                have n1_ := Aside0.mk (blk_drew BK393.out)
                have n2_ := Aside0.mk (below_drew1 HB.out)
                clear BK390
                clear BK393
                clear HB
                have BK390 := n0_
                have BK393 := n1_
                have HB := n2_
                clear n0_ n1_ n2_
                refine start_ (n := 22) (S := fun w' => w'.cell? ⟨gb393, 0, none⟩ = some (.string ((rd_T41 l0_1 x4_1).f0)) ∧ w'.cell? ⟨gb393, 1, none⟩ = some (.int .i64 ((rd_T41 l0_1 x4_1).f1)) ∧ w'.cell? ⟨gb393, 2, none⟩ = some (.int .i64 ((rd_T41 l0_1 x4_1).f2)) ∧ w'.cell? ⟨gb393, 3, none⟩ = some (.int .i64 ((rd_T41 l0_1 x4_1).f3.f0)) ∧ w'.cell? ⟨gb393, 4, none⟩ = some (.int .i64 ((rd_T41 l0_1 x4_1).f3.f1)) ∧ w'.cell? ⟨gb393, 5, none⟩ = some (.int .i64 ((rd_T41 l0_1 x4_1).f3.f2)) ∧ w'.cell? ⟨gb393, 6, none⟩ = some (.int .i64 ((rd_T41 l0_1 x4_1).f3.f3)) ∧ w'.cell? ⟨gb393, 7, none⟩ = some (.int .i64 ((rd_T41 l0_1 x4_1).f3.f4)) ∧ w'.cell? ⟨gb393, 8, none⟩ = some (.int .i64 ((rd_T41 l0_1 x4_1).f3.f5))) (ds := []) #[false, false, false, false, false, false, false, false, false, false, false, false, false, false, false, false, false, false, false, false, false, false] (by kernel_rfl) rfl rfl ⟨(blk_cell BK393.out 0).trans rfl, (blk_cell BK393.out 1).trans rfl, (blk_cell BK393.out 2).trans rfl, (blk_cell BK393.out 3).trans rfl, (blk_cell BK393.out 4).trans rfl, (blk_cell BK393.out 5).trans rfl, (blk_cell BK393.out 6).trans rfl, (blk_cell BK393.out 7).trans rfl, (blk_cell BK393.out 8).trans rfl⟩ (fun hHeld => ?_); refine with_tabW computusref26_Print.tab6 computusref26_Print.bits6 (fun HT_ HW_ => ?_)
                generalize w25.drew = w26 at BK390 BK393 HB hHeld ⊢
                refine pure_ (i := 0) (N := some 25) (v := ?_) (a' := ?_) #[true, false, false, false, false, false, false, false, false, false, false, false, false, false, false, false, false, false, false, false, false, false] rfl rfl (any_of HT_.out (by kernel_rfl)) (fun _ _ _ h => h) (Or.inl ⟨by rfl, ?_⟩) ?_ ?_
                rotate_left
                ·intro w'
                 go_simp
                 with_reducible rfl
                rotate_left
                ·simp only [Act.put, List.setIfInBounds_toArray, List.set_cons_zero, List.set_cons_succ, i64_w, i32_w]
                 rfl
                refine pure_ (i := 1) (N := some 26) (v := ?_) (a' := ?_) #[true, true, false, false, false, false, false, false, false, false, false, false, false, false, false, false, false, false, false, false, false, false] rfl rfl (any_of HT_.out (by kernel_rfl)) (fun _ _ _ h => h) (Or.inl ⟨by rfl, ?_⟩) ?_ ?_
                rotate_left
                ·intro w'
                 go_simp
                 with_reducible rfl
                rotate_left
                ·simp only [Act.put, List.setIfInBounds_toArray, List.set_cons_zero, List.set_cons_succ, i64_w, i32_w]
                 rfl
                refine pure_ (i := 2) (N := some 27) (v := ?_) (a' := ?_) #[true, true, true, false, false, false, false, false, false, false, false, false, false, false, false, false, false, false, false, false, false, false] rfl rfl (any_of HT_.out (by kernel_rfl)) (fun _ _ _ h => h) (Or.inl ⟨by rfl, ?_⟩) ?_ ?_
                rotate_left
                ·intro w'
                 go_simp
                 with_reducible rfl
                rotate_left
                ·simp only [Act.put, List.setIfInBounds_toArray, List.set_cons_zero, List.set_cons_succ, i64_w, i32_w]
                 rfl
                refine pure_ (i := 6) (N := some 31) (v := ?_) (a' := ?_) #[true, true, true, false, false, false, true, false, false, false, false, false, false, false, false, false, false, false, false, false, false, false] rfl rfl (any_of HT_.out (by kernel_rfl)) (fun _ _ _ h => h) (Or.inl ⟨by rfl, ?_⟩) ?_ ?_
                rotate_left
                ·intro w'
                 go_simp
                 with_reducible rfl
                rotate_left
                ·simp only [Act.put, List.setIfInBounds_toArray, List.set_cons_zero, List.set_cons_succ, i64_w, i32_w]
                 rfl
                refine pure_ (i := 11) (N := some 36) (v := ?_) (a' := ?_) #[true, true, true, false, false, false, true, false, false, false, false, true, false, false, false, false, false, false, false, false, false, false] rfl rfl (any_of HT_.out (by kernel_rfl)) (fun _ _ _ h => h) (Or.inl ⟨by rfl, ?_⟩) ?_ ?_
                rotate_left
                ·intro w'
                 go_simp
                 with_reducible rfl
                rotate_left
                ·simp only [Act.put, List.setIfInBounds_toArray, List.set_cons_zero, List.set_cons_succ, i64_w, i32_w]
                 rfl
                refine pure_ (i := 16) (N := some 41) (v := ?_) (a' := ?_) #[true, true, true, false, false, false, true, false, false, false, false, true, false, false, false, false, true, false, false, false, false, false] rfl rfl (any_of HT_.out (by kernel_rfl)) (fun _ _ _ h => h) (Or.inl ⟨by rfl, ?_⟩) ?_ ?_
                rotate_left
                ·intro w'
                 go_simp
                 with_reducible rfl
                rotate_left
                ·simp only [Act.put, List.setIfInBounds_toArray, List.set_cons_zero, List.set_cons_succ, i64_w, i32_w]
                 rfl
                refine take_ (i := 3) (N := some 28) (v := ?_) (a' := ?_) #[true, true, true, true, false, false, true, false, false, false, false, true, false, false, false, false, true, false, false, false, false, false] rfl rfl (take_ofW HT_.out HW_.out (by kernel_rfl)) (fun _ _ _ h => h) (Or.inl ⟨by rfl, ?_⟩) hHeld ?_ ?_
                rotate_left
                ·rintro w' ⟨s0, s1, s2, s3, s4, s5, s6, s7, s8⟩
                 go_simp
                 with_reducible rfl
                rotate_left
                ·simp only [Act.put, List.setIfInBounds_toArray, List.set_cons_zero, List.set_cons_succ, i64_w, i32_w]
                 rfl
                refine pure_ (i := 4) (N := some 29) (v := ?_) (a' := ?_) #[true, true, true, true, true, false, true, false, false, false, false, true, false, false, false, false, true, false, false, false, false, false] rfl rfl (any_of HT_.out (by kernel_rfl)) (fun _ _ _ h => h) (Or.inl ⟨by rfl, ?_⟩) ?_ ?_
                rotate_left
                ·intro w'
                 go_simp
                 with_reducible rfl
                rotate_left
                ·simp only [Act.put, List.setIfInBounds_toArray, List.set_cons_zero, List.set_cons_succ, i64_w, i32_w]
                 rfl
                refine pure_ (i := 5) (N := some 30) (v := ?_) (a' := ?_) #[true, true, true, true, true, true, true, false, false, false, false, true, false, false, false, false, true, false, false, false, false, false] rfl rfl (any_of HT_.out (by kernel_rfl)) (fun _ _ _ h => h) (Or.inl ⟨by rfl, ?_⟩) ?_ ?_
                rotate_left
                ·intro w'
                 go_simp
                 with_reducible rfl
                rotate_left
                ·simp only [Act.put, List.setIfInBounds_toArray, List.set_cons_zero, List.set_cons_succ, i64_w, i32_w]
                 rfl
                refine take_ (i := 7) (N := some 32) (v := ?_) (a' := ?_) #[true, true, true, true, true, true, true, true, false, false, false, true, false, false, false, false, true, false, false, false, false, false] rfl rfl (take_ofW HT_.out HW_.out (by kernel_rfl)) (fun _ _ _ h => h) (Or.inl ⟨by rfl, ?_⟩) hHeld ?_ ?_
                rotate_left
                ·rintro w' ⟨s0, s1, s2, s3, s4, s5, s6, s7, s8⟩
                 go_simp
                 with_reducible rfl
                rotate_left
                ·simp only [Act.put, List.setIfInBounds_toArray, List.set_cons_zero, List.set_cons_succ, i64_w, i32_w]
                 rfl
                refine take_ (i := 12) (N := some 37) (v := ?_) (a' := ?_) #[true, true, true, true, true, true, true, true, false, false, false, true, true, false, false, false, true, false, false, false, false, false] rfl rfl (take_ofW HT_.out HW_.out (by kernel_rfl)) (fun _ _ _ h => h) (Or.inl ⟨by rfl, ?_⟩) hHeld ?_ ?_
                rotate_left
                ·rintro w' ⟨s0, s1, s2, s3, s4, s5, s6, s7, s8⟩
                 go_simp
                 with_reducible rfl
                rotate_left
                ·simp only [Act.put, List.setIfInBounds_toArray, List.set_cons_zero, List.set_cons_succ, i64_w, i32_w]
                 rfl
                refine take_ (i := 17) (N := some 42) (v := ?_) (a' := ?_) #[true, true, true, true, true, true, true, true, false, false, false, true, true, false, false, false, true, true, false, false, false, false] rfl rfl (take_ofW HT_.out HW_.out (by kernel_rfl)) (fun _ _ _ h => h) (Or.inl ⟨by rfl, ?_⟩) hHeld ?_ ?_
                rotate_left
                ·rintro w' ⟨s0, s1, s2, s3, s4, s5, s6, s7, s8⟩
                 go_simp
                 with_reducible rfl
                rotate_left
                ·simp only [Act.put, List.setIfInBounds_toArray, List.set_cons_zero, List.set_cons_succ, i64_w, i32_w]
                 rfl
                refine one_ (i := 8) (N := some 33) #[true, true, true, true, true, true, true, true, true, false, false, true, true, false, false, false, true, true, false, false, false, false] rfl rfl (one_of HT_.out (by kernel_rfl)) (by decide) (fun K hK => ?_)
                refine goes_ Tryd.func33 (by kernel_rfl) rfl #[.int .i64 ((rd_T41 l0_1 x4_1).f1)] (by rfl) rfl rfl (by (try simp only [List.map_toArray, List.map_cons, List.map_nil]); first | done | rfl | (simp only [List.length_drop, List.length_take]; rfl)) ?_
                with_reducible refine (computusref26_Num.calls k1 ((rd_T41 l0_1 x4_1).f1) t394 _ A12.out).mono ?_
                rintro e w' ⟨rfl, ⟨nd, rfl⟩⟩
                refine ⟨_, rfl, ?_⟩
                refine hK.out _ _ (by first | exact ⟨(blk_cell BK393.out 0).trans rfl, (blk_cell BK393.out 1).trans rfl, (blk_cell BK393.out 2).trans rfl, (blk_cell BK393.out 3).trans rfl, (blk_cell BK393.out 4).trans rfl, (blk_cell BK393.out 5).trans rfl, (blk_cell BK393.out 6).trans rfl, (blk_cell BK393.out 7).trans rfl, (blk_cell BK393.out 8).trans rfl⟩ | exact hHeld) (fun hHeld => ?_)
                clear hK K
                refine norm_ (a' := ?_) ?_ ?_
                rotate_left
                ·show Act.put _ (some 33) _ = _
                 simp only [Act.put, List.setIfInBounds_toArray, List.set_cons_zero, List.set_cons_succ, i64_w, i32_w]
                 rfl
                refine pure_ (i := 9) (N := some 34) (v := ?_) (a' := ?_) #[true, true, true, true, true, true, true, true, true, true, false, true, true, false, false, false, true, true, false, false, false, false] rfl rfl (any_of HT_.out (by kernel_rfl)) (fun _ _ _ h => h) (Or.inl ⟨by rfl, ?_⟩) ?_ ?_
                rotate_left
                ·intro w'
                 go_simp
                 with_reducible rfl
                rotate_left
                ·simp only [Act.put, List.setIfInBounds_toArray, List.set_cons_zero, List.set_cons_succ, i64_w, i32_w]
                 rfl
                refine pure_ (i := 10) (N := some 35) (v := ?_) (a' := ?_) #[true, true, true, true, true, true, true, true, true, true, true, true, true, false, false, false, true, true, false, false, false, false] rfl rfl (any_of HT_.out (by kernel_rfl)) (fun _ _ _ h => h) (Or.inl ⟨by rfl, ?_⟩) ?_ ?_
                rotate_left
                ·intro w'
                 go_simp
                 with_reducible rfl
                rotate_left
                ·simp only [Act.put, List.setIfInBounds_toArray, List.set_cons_zero, List.set_cons_succ, i64_w, i32_w]
                 rfl
                refine one_ (i := 13) (N := some 38) #[true, true, true, true, true, true, true, true, true, true, true, true, true, true, false, false, true, true, false, false, false, false] rfl rfl (one_of HT_.out (by kernel_rfl)) (by decide) (fun K hK => ?_)
                refine goes_ Tryd.func33 (by kernel_rfl) rfl #[.int .i64 ((rd_T41 l0_1 x4_1).f2)] (by rfl) rfl rfl (by (try simp only [List.map_toArray, List.map_cons, List.map_nil]); first | done | rfl | (simp only [List.length_drop, List.length_take]; rfl)) ?_
                with_reducible refine (computusref26_Num.calls k1 ((rd_T41 l0_1 x4_1).f2) t395 _ A15.out).mono ?_
                rintro e w' ⟨rfl, ⟨nd, rfl⟩⟩
                refine ⟨_, rfl, ?_⟩
                refine hK.out _ _ (by first | exact ⟨(blk_cell BK393.out 0).trans rfl, (blk_cell BK393.out 1).trans rfl, (blk_cell BK393.out 2).trans rfl, (blk_cell BK393.out 3).trans rfl, (blk_cell BK393.out 4).trans rfl, (blk_cell BK393.out 5).trans rfl, (blk_cell BK393.out 6).trans rfl, (blk_cell BK393.out 7).trans rfl, (blk_cell BK393.out 8).trans rfl⟩ | exact hHeld) (fun hHeld => ?_)
                clear hK K
                refine norm_ (a' := ?_) ?_ ?_
                rotate_left
                ·show Act.put _ (some 38) _ = _
                 simp only [Act.put, List.setIfInBounds_toArray, List.set_cons_zero, List.set_cons_succ, i64_w, i32_w]
                 rfl
                refine pure_ (i := 14) (N := some 39) (v := ?_) (a' := ?_) #[true, true, true, true, true, true, true, true, true, true, true, true, true, true, true, false, true, true, false, false, false, false] rfl rfl (any_of HT_.out (by kernel_rfl)) (fun _ _ _ h => h) (Or.inl ⟨by rfl, ?_⟩) ?_ ?_
                rotate_left
                ·intro w'
                 go_simp
                 with_reducible rfl
                rotate_left
                ·simp only [Act.put, List.setIfInBounds_toArray, List.set_cons_zero, List.set_cons_succ, i64_w, i32_w]
                 rfl
                refine pure_ (i := 15) (N := some 40) (v := ?_) (a' := ?_) #[true, true, true, true, true, true, true, true, true, true, true, true, true, true, true, true, true, true, false, false, false, false] rfl rfl (any_of HT_.out (by kernel_rfl)) (fun _ _ _ h => h) (Or.inl ⟨by rfl, ?_⟩) ?_ ?_
                rotate_left
                ·intro w'
                 go_simp
                 with_reducible rfl
                rotate_left
                ·simp only [Act.put, List.setIfInBounds_toArray, List.set_cons_zero, List.set_cons_succ, i64_w, i32_w]
                 rfl
                refine one_ (i := 18) (N := some 43) #[true, true, true, true, true, true, true, true, true, true, true, true, true, true, true, true, true, true, true, false, false, false] rfl rfl (one_of HT_.out (by kernel_rfl)) (by decide) (fun K hK => ?_)
                refine goes_ Tryd.func34 (by kernel_rfl) rfl #[.agg #[.int .i64 ((rd_T41 l0_1 x4_1).f3.f0), .int .i64 ((rd_T41 l0_1 x4_1).f3.f1), .int .i64 ((rd_T41 l0_1 x4_1).f3.f2), .int .i64 ((rd_T41 l0_1 x4_1).f3.f3), .int .i64 ((rd_T41 l0_1 x4_1).f3.f4), .int .i64 ((rd_T41 l0_1 x4_1).f3.f5)]] (by rfl) rfl rfl (by (try simp only [List.map_toArray, List.map_cons, List.map_nil]); first | done | rfl | (simp only [List.length_drop, List.length_take]; rfl)) ?_
                with_reducible refine (computusref26_anchor.calls k1 ((rd_T41 l0_1 x4_1).f3.f0) ((rd_T41 l0_1 x4_1).f3.f1) ((rd_T41 l0_1 x4_1).f3.f2) ((rd_T41 l0_1 x4_1).f3.f3) ((rd_T41 l0_1 x4_1).f3.f4) ((rd_T41 l0_1 x4_1).f3.f5) t396 _ A18.out).mono ?_
                rintro e w27 ⟨rfl, hb⟩
                refine ⟨_, rfl, ?_⟩
                have n0_ := Aside0.mk (blk_below (g := gb390) (o := .cells #[.int .i64 a0_0, .slice (some ad392) l0_1.length c0_1, .slice A0_2 l0_2.length c0_2] 26 (0, 0)) (by (with_reducible repeat (first | refine blk_drewN ?_ _ | refine blk_drew ?_ | refine blk_alloc ?_ _)); exact BK390.out) hb)
                have n1_ := Aside0.mk (blk_below (g := gb393) (o := .cells #[.string ((rd_T41 l0_1 x4_1).f0), .int .i64 ((rd_T41 l0_1 x4_1).f1), .int .i64 ((rd_T41 l0_1 x4_1).f2), .int .i64 ((rd_T41 l0_1 x4_1).f3.f0), .int .i64 ((rd_T41 l0_1 x4_1).f3.f1), .int .i64 ((rd_T41 l0_1 x4_1).f3.f2), .int .i64 ((rd_T41 l0_1 x4_1).f3.f3), .int .i64 ((rd_T41 l0_1 x4_1).f3.f4), .int .i64 ((rd_T41 l0_1 x4_1).f3.f5)] 41 (0, 0)) (by (with_reducible repeat (first | refine blk_drewN ?_ _ | refine blk_drew ?_ | refine blk_alloc ?_ _)); exact BK393.out) hb)
                have n2_ := Aside0.mk (below_step (by repeat (first | (with_reducible first | exact HB.out | apply below_alloc | apply pw_below_drewN | apply below_drew1 | refine below_set ?_ GE390.out | refine below_set ?_ GE393.out) | exact HB.out)) hb)
                clear BK390
                clear BK393
                clear HB
                have BK390 := n0_
                have BK393 := n1_
                have HB := n2_
                clear n0_ n1_ n2_
                (try clear hb)
                (try clear hb2)
                (try clear hk)
                (try clear hi)
                refine hK.out _ _ (by first | exact ⟨(blk_cell BK393.out 0).trans rfl, (blk_cell BK393.out 1).trans rfl, (blk_cell BK393.out 2).trans rfl, (blk_cell BK393.out 3).trans rfl, (blk_cell BK393.out 4).trans rfl, (blk_cell BK393.out 5).trans rfl, (blk_cell BK393.out 6).trans rfl, (blk_cell BK393.out 7).trans rfl, (blk_cell BK393.out 8).trans rfl⟩ | exact hHeld) (fun hHeld => ?_)
                clear hK K
                refine norm_ (a' := ?_) ?_ ?_
                rotate_left
                ·show Act.put _ (some 43) _ = _
                 simp only [Act.put, List.setIfInBounds_toArray, List.set_cons_zero, List.set_cons_succ, i64_w, i32_w]
                 rfl
                refine pure_ (i := 19) (N := some 44) (v := ?_) (a' := ?_) #[true, true, true, true, true, true, true, true, true, true, true, true, true, true, true, true, true, true, true, true, false, false] rfl rfl (any_of HT_.out (by kernel_rfl)) (fun _ _ _ h => h) (Or.inl ⟨by rfl, ?_⟩) ?_ ?_
                rotate_left
                ·intro w'
                 go_simp
                 with_reducible rfl
                rotate_left
                ·simp only [Act.put, List.setIfInBounds_toArray, List.set_cons_zero, List.set_cons_succ, i64_w, i32_w]
                 rfl
                refine pure_ (i := 20) (N := some 45) (v := ?_) (a' := ?_) #[true, true, true, true, true, true, true, true, true, true, true, true, true, true, true, true, true, true, true, true, true, false] rfl rfl (any_of HT_.out (by kernel_rfl)) (fun _ _ _ h => h) (Or.inl ⟨by rfl, ?_⟩) ?_ ?_
                rotate_left
                ·intro w'
                 go_simp
                 with_reducible rfl
                rotate_left
                ·simp only [Act.put, List.setIfInBounds_toArray, List.set_cons_zero, List.set_cons_succ, i64_w, i32_w]
                 rfl
                refine pure_ (i := 21) (N := some 3) (v := ?_) (a' := ?_) #[true, true, true, true, true, true, true, true, true, true, true, true, true, true, true, true, true, true, true, true, true, true] rfl rfl (any_of HT_.out (by kernel_rfl)) (fun _ _ _ h => h) (Or.inl ⟨by rfl, ?_⟩) ?_ ?_
                rotate_left
                ·intro w'
                 go_simp
                 with_reducible rfl
                rotate_left
                ·simp only [Act.put, List.setIfInBounds_toArray, List.set_cons_zero, List.set_cons_succ, i64_w, i32_w]
                 rfl
                refine done_ (done_of HT_.out (by kernel_rfl)) ?_
                try go_wp2
                go_roundg k1
                case measure => have := HK1.out; omega
                case rel => exact ⟨(((((((((x3_1 ++ (⟨#[115, 101, 97, 115, 111, 110, 32]⟩ : ByteArray)) ++ ((rd_T41 l0_1 x4_1).f0)) ++ (⟨#[32]⟩ : ByteArray)) ++ t394) ++ (⟨#[32]⟩ : ByteArray)) ++ t395) ++ (⟨#[32]⟩ : ByteArray)) ++ t396) ++ (⟨#[10]⟩ : ByteArray)), (wrap64 (x4_1 + 1)), (by first | rfl | (simp; done) | (simp [*]; done)), (by first | rfl | (simp; done) | (simp [*]; done)), H', ⟨by have := HK1.out; omega⟩, ⟨by (with_reducible repeat (first | refine blk_drewN ?_ _ | refine blk_drew ?_ | refine blk_alloc ?_ _)); exact BK390.out⟩, ⟨by repeat (first | (with_reducible first | exact HB.out | apply below_alloc | apply pw_below_drewN | apply below_drew1 | refine below_set ?_ GE390.out | refine below_set ?_ GE393.out) | exact HB.out)⟩⟩
               ·rw [if_neg c20] at H
                exact absurd H (by simp)
              ·rw [if_neg c19] at H
               exact absurd H (by simp)
             ·rw [if_neg c17] at H
              exact absurd H (by simp)
            ·rw [if_neg c16] at H
             exact absurd H (by simp)
           ·rw [if_neg c14] at H
            exact absurd H (by simp)
          ·rw [if_neg c13] at H
           exact absurd H (by simp)
         ·rw [if_neg c11] at H
          exact absurd H (by simp)
        ·rw [if_neg c10] at H
         exact absurd H (by simp)
       ·rw [if_neg c9] at H
        exact absurd H (by simp)
      ·rw [if_neg c8] at H
       exact absurd H (by simp)
     ·rw [if_neg c7] at H
      have c7b0 : decide (x4_1 < (l0_1.length : Int)) = false := decide_eq_false c7
      clear c7
      have H' := Aside0.mk H
      clear H
      have hcz28_0 : wr.cell? ⟨gb390, 0, none⟩ = some (.int .i64 a0_0) := (blk_cell BK390.out 0).trans rfl
      have hcz28_1 : wr.cell? ⟨gb390, 1, none⟩ = some (.slice A0_1 l0_1.length c0_1) := (blk_cell BK390.out 1).trans rfl
      have hcz28_2 : wr.cell? ⟨gb390, 2, none⟩ = some (.slice A0_2 l0_2.length c0_2) := (blk_cell BK390.out 2).trans rfl
      have hfz28_0 := blk_frozen BK390.out 0
      have hfz28_1 := blk_frozen BK390.out 1
      have hfz28_2 := blk_frozen BK390.out 2
      go_wp2
      go_loopg [3, 6] k1 (fun kq v3 v6 w' => ∃ (x3_2 : ByteArray) (x6_2 : Int), v3 = .string x3_2 ∧ v6 = .int .i64 x6_2 ∧ Aside0 (computusref26_Print.l1 kq x3_2 x6_2 a0_0 l0_1 l0_2 = some r) ∧ Aside0 (kq ≤ k1) ∧ Aside0 (w'.heap[gb390]? = some (.cells #[.int .i64 a0_0, (.slice A0_1 l0_1.length c0_1), (.slice A0_2 l0_2.length c0_2)] 26 (0, 0))) ∧ Aside0 (Below w.heap.size w w'))
      case atStart => exact ⟨(x3_1), (0), (by first | rfl | (simp; done) | (simp [*]; done)), (by first | rfl | (simp; done) | (simp [*]; done)), H', ⟨Nat.le_refl _⟩, ⟨by (with_reducible repeat (first | refine blk_drewN ?_ _ | refine blk_drew ?_ | refine blk_alloc ?_ _)); exact BK390.out⟩, ⟨by repeat (first | (with_reducible first | exact HB.out | apply below_alloc | apply pw_below_drewN | apply below_drew1 | refine below_set ?_ GE390.out) | exact HB.out)⟩⟩
      case round =>
       clear H'
       try clear c1
       try clear c2
       try clear p2
       try clear c3
       try clear c3b0
       try clear c3b1
       try clear c3b2
       try clear p3
       try clear q3
       try clear hx3
       try clear c4
       try clear c4b0
       try clear c4b1
       try clear c4b2
       try clear p6
       try clear c7
       try clear c7b0
       try clear c8
       try clear c8b0
       try clear c9
       try clear c9b0
       try clear c9b1
       try clear c9b2
       try clear c10
       try clear c10b0
       try clear c10b1
       try clear c10b2
       try clear c11
       try clear c11b0
       try clear c11b1
       try clear c11b2
       try clear c13
       try clear c13b0
       try clear c13b1
       try clear c13b2
       try clear c14
       try clear c14b0
       try clear c14b1
       try clear c14b2
       try clear c15
       try clear c16
       try clear c16b0
       try clear c16b1
       try clear c16b2
       try clear c17
       try clear c17b0
       try clear c17b1
       try clear c17b2
       try clear c19
       try clear c19b0
       try clear c19b1
       try clear c19b2
       try clear c20
       try clear c20b0
       try clear c20b1
       try clear c20b2
       try clear c23
       try clear hcz21_0
       try clear hcz21_1
       try clear hcz21_2
       try clear hcz24_0
       try clear hcz24_1
       try clear hcz24_2
       try clear hcz24_3
       try clear hcz24_4
       try clear hcz24_5
       try clear hcz24_6
       try clear hcz24_7
       try clear hcz24_8
       try clear hcz28_0
       try clear hcz28_1
       try clear hcz28_2
       try clear hcz6_0
       try clear hcz6_1
       try clear hcz6_2
       try clear hfz21_0
       try clear hfz21_1
       try clear hfz21_2
       try clear hfz24_0
       try clear hfz24_1
       try clear hfz24_2
       try clear hfz24_3
       try clear hfz24_4
       try clear hfz24_5
       try clear hfz24_6
       try clear hfz24_7
       try clear hfz24_8
       try clear hfz28_0
       try clear hfz28_1
       try clear hfz28_2
       try clear hfz6_0
       try clear hfz6_1
       try clear hfz6_2
       try clear hx392_0
       try clear hx392_1
       try clear hx392_2
       try clear hx392_3
       try clear hx392_4
       try clear hx392_5
       try clear hx392_6
       try clear hx392_7
       try clear hx392_8
       try clear p2
       try clear p392
       try clear q392
       obtain ⟨x3_2, x6_2, rfl, rfl, HA, HK2, BK390, HB⟩ := hrel
       cases gk with
       | zero => exact absurd HA.out (by simp [computusref26_Print.l1])
       | succ k2 =>
        have H := HA.out
        clear HA
        simp only [computusref26_Print.l1] at H
        by_cases c29 : x6_2 < (l0_2.length : Int)
        ·rw [if_pos c29] at H
         have c29b0 : decide (x6_2 < (l0_2.length : Int)) = true := decide_eq_true c29
         clear c29
         by_cases c30 : 0 ≤ x6_2
         ·rw [if_pos c30] at H
          have c30b0 : decide (0 ≤ x6_2) = true := decide_eq_true c30
          clear c30
          by_cases c31 : x3_2.size + 6 ≤ 9223372036854775807
          ·rw [if_pos c31] at H
           have c31b0 := eq_true c31
           have c31b1 : decide (x3_2.size + 6 ≤ 9223372036854775807) = true := decide_eq_true c31
           try have c31b2 : (9223372036854775807 < x3_2.size + 6) = False := eq_false (Nat.not_lt.2 c31)
           by_cases c32 : (x3_2 ++ (⟨#[102, 101, 97, 115, 116, 32]⟩ : ByteArray)).size + ((rd_T43 l0_2 x6_2).f0).size ≤ 9223372036854775807
           ·rw [if_pos c32] at H
            have c32b0 := eq_true c32
            have c32b1 : decide ((x3_2 ++ (⟨#[102, 101, 97, 115, 116, 32]⟩ : ByteArray)).size + ((rd_T43 l0_2 x6_2).f0).size ≤ 9223372036854775807) = true := decide_eq_true c32
            have c32e : x3_2.size + 6 + ((rd_T43 l0_2 x6_2).f0).size ≤ 9223372036854775807 := by have h_ := c32; simp only [ByteArray.size_append] at h_; exact h_
            have c32e0 := eq_true c32e
            have c32e1 : decide (x3_2.size + 6 + ((rd_T43 l0_2 x6_2).f0).size ≤ 9223372036854775807) = true := decide_eq_true c32e
            have c32e2 : (9223372036854775807 < x3_2.size + 6 + ((rd_T43 l0_2 x6_2).f0).size) = False := eq_false (Nat.not_lt.2 c32e)
            try have c32b2 : (9223372036854775807 < (x3_2 ++ (⟨#[102, 101, 97, 115, 116, 32]⟩ : ByteArray)).size + ((rd_T43 l0_2 x6_2).f0).size) = False := eq_false (Nat.not_lt.2 c32)
            by_cases c33 : ((x3_2 ++ (⟨#[102, 101, 97, 115, 116, 32]⟩ : ByteArray)) ++ ((rd_T43 l0_2 x6_2).f0)).size + 1 ≤ 9223372036854775807
            ·rw [if_pos c33] at H
             have c33b0 := eq_true c33
             have c33b1 : decide (((x3_2 ++ (⟨#[102, 101, 97, 115, 116, 32]⟩ : ByteArray)) ++ ((rd_T43 l0_2 x6_2).f0)).size + 1 ≤ 9223372036854775807) = true := decide_eq_true c33
             have c33e : x3_2.size + 6 + (rd_T43 l0_2 x6_2).f0.size + 1 ≤ 9223372036854775807 := by have h_ := c33; simp only [ByteArray.size_append] at h_; exact h_
             have c33e0 := eq_true c33e
             have c33e1 : decide (x3_2.size + 6 + (rd_T43 l0_2 x6_2).f0.size + 1 ≤ 9223372036854775807) = true := decide_eq_true c33e
             have c33e2 : (9223372036854775807 < x3_2.size + 6 + (rd_T43 l0_2 x6_2).f0.size + 1) = False := eq_false (Nat.not_lt.2 c33e)
             try have c33b2 : (9223372036854775807 < ((x3_2 ++ (⟨#[102, 101, 97, 115, 116, 32]⟩ : ByteArray)) ++ ((rd_T43 l0_2 x6_2).f0)).size + 1) = False := eq_false (Nat.not_lt.2 c33)
             replace H := Option.bind_eq_some_iff.mp H
             obtain ⟨t399, A340, H⟩ := H
             replace H : (if (((x3_2 ++ (⟨#[102, 101, 97, 115, 116, 32]⟩ : ByteArray)) ++ ((rd_T43 l0_2 x6_2).f0)) ++ (⟨#[32]⟩ : ByteArray)).size + t399.size ≤ 9223372036854775807 then (if ((((x3_2 ++ (⟨#[102, 101, 97, 115, 116, 32]⟩ : ByteArray)) ++ ((rd_T43 l0_2 x6_2).f0)) ++ (⟨#[32]⟩ : ByteArray)) ++ t399).size + 1 ≤ 9223372036854775807 then ((computusref26_policy.f ((rd_T43 l0_2 x6_2).f2)).bind fun t400 => (if (((((x3_2 ++ (⟨#[102, 101, 97, 115, 116, 32]⟩ : ByteArray)) ++ ((rd_T43 l0_2 x6_2).f0)) ++ (⟨#[32]⟩ : ByteArray)) ++ t399) ++ (⟨#[32]⟩ : ByteArray)).size + t400.size ≤ 9223372036854775807 then (if ((((((x3_2 ++ (⟨#[102, 101, 97, 115, 116, 32]⟩ : ByteArray)) ++ ((rd_T43 l0_2 x6_2).f0)) ++ (⟨#[32]⟩ : ByteArray)) ++ t399) ++ (⟨#[32]⟩ : ByteArray)) ++ t400).size + 1 ≤ 9223372036854775807 then ((computusref26_anchor.f k2 ((rd_T43 l0_2 x6_2).f3.f0) ((rd_T43 l0_2 x6_2).f3.f1) ((rd_T43 l0_2 x6_2).f3.f2) ((rd_T43 l0_2 x6_2).f3.f3) ((rd_T43 l0_2 x6_2).f3.f4) ((rd_T43 l0_2 x6_2).f3.f5)).bind fun t401 => (if (((((((x3_2 ++ (⟨#[102, 101, 97, 115, 116, 32]⟩ : ByteArray)) ++ ((rd_T43 l0_2 x6_2).f0)) ++ (⟨#[32]⟩ : ByteArray)) ++ t399) ++ (⟨#[32]⟩ : ByteArray)) ++ t400) ++ (⟨#[32]⟩ : ByteArray)).size + t401.size ≤ 9223372036854775807 then (if ((((((((x3_2 ++ (⟨#[102, 101, 97, 115, 116, 32]⟩ : ByteArray)) ++ ((rd_T43 l0_2 x6_2).f0)) ++ (⟨#[32]⟩ : ByteArray)) ++ t399) ++ (⟨#[32]⟩ : ByteArray)) ++ t400) ++ (⟨#[32]⟩ : ByteArray)) ++ t401).size + 1 ≤ 9223372036854775807 then (computusref26_Print.l1 k2 (((((((((x3_2 ++ (⟨#[102, 101, 97, 115, 116, 32]⟩ : ByteArray)) ++ ((rd_T43 l0_2 x6_2).f0)) ++ (⟨#[32]⟩ : ByteArray)) ++ t399) ++ (⟨#[32]⟩ : ByteArray)) ++ t400) ++ (⟨#[32]⟩ : ByteArray)) ++ t401) ++ (⟨#[10]⟩ : ByteArray)) (wrap64 (x6_2 + 1)) a0_0 l0_1 l0_2) else (none)) else (none))) else (none)) else (none))) else (none)) else (none)) = some r := H
             have A34 := Aside0.mk A340
             clear A340
             by_cases c35 : (((x3_2 ++ (⟨#[102, 101, 97, 115, 116, 32]⟩ : ByteArray)) ++ ((rd_T43 l0_2 x6_2).f0)) ++ (⟨#[32]⟩ : ByteArray)).size + t399.size ≤ 9223372036854775807
             ·rw [if_pos c35] at H
              have c35b0 := eq_true c35
              have c35b1 : decide ((((x3_2 ++ (⟨#[102, 101, 97, 115, 116, 32]⟩ : ByteArray)) ++ ((rd_T43 l0_2 x6_2).f0)) ++ (⟨#[32]⟩ : ByteArray)).size + t399.size ≤ 9223372036854775807) = true := decide_eq_true c35
              have c35e : x3_2.size + 6 + (rd_T43 l0_2 x6_2).f0.size + 1 + t399.size ≤ 9223372036854775807 := by have h_ := c35; simp only [ByteArray.size_append] at h_; exact h_
              have c35e0 := eq_true c35e
              have c35e1 : decide (x3_2.size + 6 + (rd_T43 l0_2 x6_2).f0.size + 1 + t399.size ≤ 9223372036854775807) = true := decide_eq_true c35e
              have c35e2 : (9223372036854775807 < x3_2.size + 6 + (rd_T43 l0_2 x6_2).f0.size + 1 + t399.size) = False := eq_false (Nat.not_lt.2 c35e)
              try have c35b2 : (9223372036854775807 < (((x3_2 ++ (⟨#[102, 101, 97, 115, 116, 32]⟩ : ByteArray)) ++ ((rd_T43 l0_2 x6_2).f0)) ++ (⟨#[32]⟩ : ByteArray)).size + t399.size) = False := eq_false (Nat.not_lt.2 c35)
              by_cases c36 : ((((x3_2 ++ (⟨#[102, 101, 97, 115, 116, 32]⟩ : ByteArray)) ++ ((rd_T43 l0_2 x6_2).f0)) ++ (⟨#[32]⟩ : ByteArray)) ++ t399).size + 1 ≤ 9223372036854775807
              ·rw [if_pos c36] at H
               have c36b0 := eq_true c36
               have c36b1 : decide (((((x3_2 ++ (⟨#[102, 101, 97, 115, 116, 32]⟩ : ByteArray)) ++ ((rd_T43 l0_2 x6_2).f0)) ++ (⟨#[32]⟩ : ByteArray)) ++ t399).size + 1 ≤ 9223372036854775807) = true := decide_eq_true c36
               have c36e : x3_2.size + 6 + (rd_T43 l0_2 x6_2).f0.size + 1 + t399.size + 1 ≤ 9223372036854775807 := by have h_ := c36; simp only [ByteArray.size_append] at h_; exact h_
               have c36e0 := eq_true c36e
               have c36e1 : decide (x3_2.size + 6 + (rd_T43 l0_2 x6_2).f0.size + 1 + t399.size + 1 ≤ 9223372036854775807) = true := decide_eq_true c36e
               have c36e2 : (9223372036854775807 < x3_2.size + 6 + (rd_T43 l0_2 x6_2).f0.size + 1 + t399.size + 1) = False := eq_false (Nat.not_lt.2 c36e)
               try have c36b2 : (9223372036854775807 < ((((x3_2 ++ (⟨#[102, 101, 97, 115, 116, 32]⟩ : ByteArray)) ++ ((rd_T43 l0_2 x6_2).f0)) ++ (⟨#[32]⟩ : ByteArray)) ++ t399).size + 1) = False := eq_false (Nat.not_lt.2 c36)
               replace H := Option.bind_eq_some_iff.mp H
               obtain ⟨t400, A370, H⟩ := H
               replace H : (if (((((x3_2 ++ (⟨#[102, 101, 97, 115, 116, 32]⟩ : ByteArray)) ++ ((rd_T43 l0_2 x6_2).f0)) ++ (⟨#[32]⟩ : ByteArray)) ++ t399) ++ (⟨#[32]⟩ : ByteArray)).size + t400.size ≤ 9223372036854775807 then (if ((((((x3_2 ++ (⟨#[102, 101, 97, 115, 116, 32]⟩ : ByteArray)) ++ ((rd_T43 l0_2 x6_2).f0)) ++ (⟨#[32]⟩ : ByteArray)) ++ t399) ++ (⟨#[32]⟩ : ByteArray)) ++ t400).size + 1 ≤ 9223372036854775807 then ((computusref26_anchor.f k2 ((rd_T43 l0_2 x6_2).f3.f0) ((rd_T43 l0_2 x6_2).f3.f1) ((rd_T43 l0_2 x6_2).f3.f2) ((rd_T43 l0_2 x6_2).f3.f3) ((rd_T43 l0_2 x6_2).f3.f4) ((rd_T43 l0_2 x6_2).f3.f5)).bind fun t401 => (if (((((((x3_2 ++ (⟨#[102, 101, 97, 115, 116, 32]⟩ : ByteArray)) ++ ((rd_T43 l0_2 x6_2).f0)) ++ (⟨#[32]⟩ : ByteArray)) ++ t399) ++ (⟨#[32]⟩ : ByteArray)) ++ t400) ++ (⟨#[32]⟩ : ByteArray)).size + t401.size ≤ 9223372036854775807 then (if ((((((((x3_2 ++ (⟨#[102, 101, 97, 115, 116, 32]⟩ : ByteArray)) ++ ((rd_T43 l0_2 x6_2).f0)) ++ (⟨#[32]⟩ : ByteArray)) ++ t399) ++ (⟨#[32]⟩ : ByteArray)) ++ t400) ++ (⟨#[32]⟩ : ByteArray)) ++ t401).size + 1 ≤ 9223372036854775807 then (computusref26_Print.l1 k2 (((((((((x3_2 ++ (⟨#[102, 101, 97, 115, 116, 32]⟩ : ByteArray)) ++ ((rd_T43 l0_2 x6_2).f0)) ++ (⟨#[32]⟩ : ByteArray)) ++ t399) ++ (⟨#[32]⟩ : ByteArray)) ++ t400) ++ (⟨#[32]⟩ : ByteArray)) ++ t401) ++ (⟨#[10]⟩ : ByteArray)) (wrap64 (x6_2 + 1)) a0_0 l0_1 l0_2) else (none)) else (none))) else (none)) else (none)) = some r := H
               have A37 := Aside0.mk A370
               clear A370
               by_cases c38 : (((((x3_2 ++ (⟨#[102, 101, 97, 115, 116, 32]⟩ : ByteArray)) ++ ((rd_T43 l0_2 x6_2).f0)) ++ (⟨#[32]⟩ : ByteArray)) ++ t399) ++ (⟨#[32]⟩ : ByteArray)).size + t400.size ≤ 9223372036854775807
               ·rw [if_pos c38] at H
                have c38b0 := eq_true c38
                have c38b1 : decide ((((((x3_2 ++ (⟨#[102, 101, 97, 115, 116, 32]⟩ : ByteArray)) ++ ((rd_T43 l0_2 x6_2).f0)) ++ (⟨#[32]⟩ : ByteArray)) ++ t399) ++ (⟨#[32]⟩ : ByteArray)).size + t400.size ≤ 9223372036854775807) = true := decide_eq_true c38
                have c38e : x3_2.size + 6 + (rd_T43 l0_2 x6_2).f0.size + 1 + t399.size + 1 + t400.size ≤ 9223372036854775807 := by have h_ := c38; simp only [ByteArray.size_append] at h_; exact h_
                have c38e0 := eq_true c38e
                have c38e1 : decide (x3_2.size + 6 + (rd_T43 l0_2 x6_2).f0.size + 1 + t399.size + 1 + t400.size ≤ 9223372036854775807) = true := decide_eq_true c38e
                have c38e2 : (9223372036854775807 < x3_2.size + 6 + (rd_T43 l0_2 x6_2).f0.size + 1 + t399.size + 1 + t400.size) = False := eq_false (Nat.not_lt.2 c38e)
                try have c38b2 : (9223372036854775807 < (((((x3_2 ++ (⟨#[102, 101, 97, 115, 116, 32]⟩ : ByteArray)) ++ ((rd_T43 l0_2 x6_2).f0)) ++ (⟨#[32]⟩ : ByteArray)) ++ t399) ++ (⟨#[32]⟩ : ByteArray)).size + t400.size) = False := eq_false (Nat.not_lt.2 c38)
                by_cases c39 : ((((((x3_2 ++ (⟨#[102, 101, 97, 115, 116, 32]⟩ : ByteArray)) ++ ((rd_T43 l0_2 x6_2).f0)) ++ (⟨#[32]⟩ : ByteArray)) ++ t399) ++ (⟨#[32]⟩ : ByteArray)) ++ t400).size + 1 ≤ 9223372036854775807
                ·rw [if_pos c39] at H
                 have c39b0 := eq_true c39
                 have c39b1 : decide (((((((x3_2 ++ (⟨#[102, 101, 97, 115, 116, 32]⟩ : ByteArray)) ++ ((rd_T43 l0_2 x6_2).f0)) ++ (⟨#[32]⟩ : ByteArray)) ++ t399) ++ (⟨#[32]⟩ : ByteArray)) ++ t400).size + 1 ≤ 9223372036854775807) = true := decide_eq_true c39
                 have c39e : x3_2.size + 6 + (rd_T43 l0_2 x6_2).f0.size + 1 + t399.size + 1 + t400.size + 1 ≤ 9223372036854775807 := by have h_ := c39; simp only [ByteArray.size_append] at h_; exact h_
                 have c39e0 := eq_true c39e
                 have c39e1 : decide (x3_2.size + 6 + (rd_T43 l0_2 x6_2).f0.size + 1 + t399.size + 1 + t400.size + 1 ≤ 9223372036854775807) = true := decide_eq_true c39e
                 have c39e2 : (9223372036854775807 < x3_2.size + 6 + (rd_T43 l0_2 x6_2).f0.size + 1 + t399.size + 1 + t400.size + 1) = False := eq_false (Nat.not_lt.2 c39e)
                 try have c39b2 : (9223372036854775807 < ((((((x3_2 ++ (⟨#[102, 101, 97, 115, 116, 32]⟩ : ByteArray)) ++ ((rd_T43 l0_2 x6_2).f0)) ++ (⟨#[32]⟩ : ByteArray)) ++ t399) ++ (⟨#[32]⟩ : ByteArray)) ++ t400).size + 1) = False := eq_false (Nat.not_lt.2 c39)
                 replace H := Option.bind_eq_some_iff.mp H
                 obtain ⟨t401, A400, H⟩ := H
                 replace H : (if (((((((x3_2 ++ (⟨#[102, 101, 97, 115, 116, 32]⟩ : ByteArray)) ++ ((rd_T43 l0_2 x6_2).f0)) ++ (⟨#[32]⟩ : ByteArray)) ++ t399) ++ (⟨#[32]⟩ : ByteArray)) ++ t400) ++ (⟨#[32]⟩ : ByteArray)).size + t401.size ≤ 9223372036854775807 then (if ((((((((x3_2 ++ (⟨#[102, 101, 97, 115, 116, 32]⟩ : ByteArray)) ++ ((rd_T43 l0_2 x6_2).f0)) ++ (⟨#[32]⟩ : ByteArray)) ++ t399) ++ (⟨#[32]⟩ : ByteArray)) ++ t400) ++ (⟨#[32]⟩ : ByteArray)) ++ t401).size + 1 ≤ 9223372036854775807 then (computusref26_Print.l1 k2 (((((((((x3_2 ++ (⟨#[102, 101, 97, 115, 116, 32]⟩ : ByteArray)) ++ ((rd_T43 l0_2 x6_2).f0)) ++ (⟨#[32]⟩ : ByteArray)) ++ t399) ++ (⟨#[32]⟩ : ByteArray)) ++ t400) ++ (⟨#[32]⟩ : ByteArray)) ++ t401) ++ (⟨#[10]⟩ : ByteArray)) (wrap64 (x6_2 + 1)) a0_0 l0_1 l0_2) else (none)) else (none)) = some r := H
                 have A40 := Aside0.mk A400
                 clear A400
                 by_cases c41 : (((((((x3_2 ++ (⟨#[102, 101, 97, 115, 116, 32]⟩ : ByteArray)) ++ ((rd_T43 l0_2 x6_2).f0)) ++ (⟨#[32]⟩ : ByteArray)) ++ t399) ++ (⟨#[32]⟩ : ByteArray)) ++ t400) ++ (⟨#[32]⟩ : ByteArray)).size + t401.size ≤ 9223372036854775807
                 ·rw [if_pos c41] at H
                  have c41b0 := eq_true c41
                  have c41b1 : decide ((((((((x3_2 ++ (⟨#[102, 101, 97, 115, 116, 32]⟩ : ByteArray)) ++ ((rd_T43 l0_2 x6_2).f0)) ++ (⟨#[32]⟩ : ByteArray)) ++ t399) ++ (⟨#[32]⟩ : ByteArray)) ++ t400) ++ (⟨#[32]⟩ : ByteArray)).size + t401.size ≤ 9223372036854775807) = true := decide_eq_true c41
                  have c41e : x3_2.size + 6 + (rd_T43 l0_2 x6_2).f0.size + 1 + t399.size + 1 + t400.size + 1 + t401.size ≤ 9223372036854775807 := by have h_ := c41; simp only [ByteArray.size_append] at h_; exact h_
                  have c41e0 := eq_true c41e
                  have c41e1 : decide (x3_2.size + 6 + (rd_T43 l0_2 x6_2).f0.size + 1 + t399.size + 1 + t400.size + 1 + t401.size ≤ 9223372036854775807) = true := decide_eq_true c41e
                  have c41e2 : (9223372036854775807 < x3_2.size + 6 + (rd_T43 l0_2 x6_2).f0.size + 1 + t399.size + 1 + t400.size + 1 + t401.size) = False := eq_false (Nat.not_lt.2 c41e)
                  try have c41b2 : (9223372036854775807 < (((((((x3_2 ++ (⟨#[102, 101, 97, 115, 116, 32]⟩ : ByteArray)) ++ ((rd_T43 l0_2 x6_2).f0)) ++ (⟨#[32]⟩ : ByteArray)) ++ t399) ++ (⟨#[32]⟩ : ByteArray)) ++ t400) ++ (⟨#[32]⟩ : ByteArray)).size + t401.size) = False := eq_false (Nat.not_lt.2 c41)
                  by_cases c42 : ((((((((x3_2 ++ (⟨#[102, 101, 97, 115, 116, 32]⟩ : ByteArray)) ++ ((rd_T43 l0_2 x6_2).f0)) ++ (⟨#[32]⟩ : ByteArray)) ++ t399) ++ (⟨#[32]⟩ : ByteArray)) ++ t400) ++ (⟨#[32]⟩ : ByteArray)) ++ t401).size + 1 ≤ 9223372036854775807
                  ·rw [if_pos c42] at H
                   have c42b0 := eq_true c42
                   have c42b1 : decide (((((((((x3_2 ++ (⟨#[102, 101, 97, 115, 116, 32]⟩ : ByteArray)) ++ ((rd_T43 l0_2 x6_2).f0)) ++ (⟨#[32]⟩ : ByteArray)) ++ t399) ++ (⟨#[32]⟩ : ByteArray)) ++ t400) ++ (⟨#[32]⟩ : ByteArray)) ++ t401).size + 1 ≤ 9223372036854775807) = true := decide_eq_true c42
                   have c42e : x3_2.size + 6 + (rd_T43 l0_2 x6_2).f0.size + 1 + t399.size + 1 + t400.size + 1 + t401.size + 1 ≤ 9223372036854775807 := by have h_ := c42; simp only [ByteArray.size_append] at h_; exact h_
                   have c42e0 := eq_true c42e
                   have c42e1 : decide (x3_2.size + 6 + (rd_T43 l0_2 x6_2).f0.size + 1 + t399.size + 1 + t400.size + 1 + t401.size + 1 ≤ 9223372036854775807) = true := decide_eq_true c42e
                   have c42e2 : (9223372036854775807 < x3_2.size + 6 + (rd_T43 l0_2 x6_2).f0.size + 1 + t399.size + 1 + t400.size + 1 + t401.size + 1) = False := eq_false (Nat.not_lt.2 c42e)
                   try have c42b2 : (9223372036854775807 < ((((((((x3_2 ++ (⟨#[102, 101, 97, 115, 116, 32]⟩ : ByteArray)) ++ ((rd_T43 l0_2 x6_2).f0)) ++ (⟨#[32]⟩ : ByteArray)) ++ t399) ++ (⟨#[32]⟩ : ByteArray)) ++ t400) ++ (⟨#[32]⟩ : ByteArray)) ++ t401).size + 1) = False := eq_false (Nat.not_lt.2 c42)
                   have H' := Aside0.mk H
                   clear H
                   have hcz43_0 : wr.cell? ⟨gb390, 0, none⟩ = some (.int .i64 a0_0) := (blk_cell BK390.out 0).trans rfl
                   have hcz43_1 : wr.cell? ⟨gb390, 1, none⟩ = some (.slice A0_1 l0_1.length c0_1) := (blk_cell BK390.out 1).trans rfl
                   have hcz43_2 : wr.cell? ⟨gb390, 2, none⟩ = some (.slice A0_2 l0_2.length c0_2) := (blk_cell BK390.out 2).trans rfl
                   have hfz43_0 := blk_frozen BK390.out 0
                   have hfz43_1 := blk_frozen BK390.out 1
                   have hfz43_2 := blk_frozen BK390.out 2
                   have p397 : 0 ≤ (x6_2 : Int) := of_decide_eq_true (by first | (with_reducible assumption) | assumption)
                   have q397 : x6_2 < (l0_2.length : Int) := of_decide_eq_true (by first | (with_reducible assumption) | assumption)
                   obtain ⟨ad397, e397, hx397_0, hx397_1, hx397_2, hx397_3, hx397_4, hx397_5, hx397_6, hx397_7, hx397_8⟩ := at_T43 HR0_2.out x6_2 p397 q397
                   cases e397
                   replace hx397_0 := (HB.out.cell (World.block_lt_of_cell? w _ hx397_0)).trans hx397_0
                   replace hx397_1 := (HB.out.cell (World.block_lt_of_cell? w _ hx397_1)).trans hx397_1
                   replace hx397_2 := (HB.out.cell (World.block_lt_of_cell? w _ hx397_2)).trans hx397_2
                   replace hx397_3 := (HB.out.cell (World.block_lt_of_cell? w _ hx397_3)).trans hx397_3
                   replace hx397_4 := (HB.out.cell (World.block_lt_of_cell? w _ hx397_4)).trans hx397_4
                   replace hx397_5 := (HB.out.cell (World.block_lt_of_cell? w _ hx397_5)).trans hx397_5
                   replace hx397_6 := (HB.out.cell (World.block_lt_of_cell? w _ hx397_6)).trans hx397_6
                   replace hx397_7 := (HB.out.cell (World.block_lt_of_cell? w _ hx397_7)).trans hx397_7
                   replace hx397_8 := (HB.out.cell (World.block_lt_of_cell? w _ hx397_8)).trans hx397_8
                   replace p397 := eq_true p397
                   replace q397 := eq_true q397
                   try go_wp2_with (first | ((with_reducible refine gate_dst (N := 7) rfl ?_); refine box_event ?hg (N := 7) ?hd (cs := #[.string (⟨#[]⟩ : ByteArray), .int .i64 0, .int .i64 0, .int .i64 0, .int .i64 0, .int .i64 0, .int .i64 0, .int .i64 0, .int .i64 0]) (t := 43) ?hr ?_; (case hd => rfl); (case hg => rfl); (case hr => first | (go_simp; done) | (go_simp; rfl)); intro gb398 hg w44 hbox hb; have n0_ := Aside0.mk (blk_below (g := gb390) (o := .cells #[.int .i64 a0_0, .slice A0_1 l0_1.length c0_1, .slice (some ad397) l0_2.length c0_2] 26 (0, 0)) (by (with_reducible repeat (first | refine blk_drewN ?_ _ | refine blk_drew ?_ | refine blk_alloc ?_ _)); exact BK390.out) hb); have n1_ := Aside0.mk (below_step (by repeat (first | (with_reducible first | exact HB.out | apply below_alloc | apply pw_below_drewN | apply below_drew1 | refine below_set ?_ GE390.out) | exact HB.out)) hb); have n2_ := Aside0.mk (hbox); have n3_ := Aside0.mk ((by rw [hg]; exact (below_size (by repeat (first | (with_reducible first | exact HB.out | apply below_alloc | apply pw_below_drewN | apply below_drew1 | refine below_set ?_ GE390.out) | exact HB.out))) : w.heap.size ≤ gb398)); have n4_ := Aside0.mk ((by rw [hg]; exact (below_size (by repeat (first | (with_reducible first | exact HB.out | apply below_alloc | apply pw_below_drewN | apply below_drew1 | refine below_set ?_ GE390.out) | exact HB.out))) : w.heap.size ≤ gb398)); have n5_ := Aside0.mk ((by rw [hg]; exact Nat.ne_of_lt (blk_lt (g := gb390) (o := .cells #[.int .i64 a0_0, .slice A0_1 l0_1.length c0_1, .slice (some ad397) l0_2.length c0_2] 26 (0, 0)) (by (with_reducible repeat (first | refine blk_drewN ?_ _ | refine blk_drew ?_ | refine blk_alloc ?_ _)); exact BK390.out)) : gb390 ≠ gb398)); have n6_ := Aside0.mk ((by rw [hg]; exact Nat.ne_of_gt (blk_lt (g := gb390) (o := .cells #[.int .i64 a0_0, .slice A0_1 l0_1.length c0_1, .slice (some ad397) l0_2.length c0_2] 26 (0, 0)) (by (with_reducible repeat (first | refine blk_drewN ?_ _ | refine blk_drew ?_ | refine blk_alloc ?_ _)); exact BK390.out)) : gb398 ≠ gb390)); clear BK390; clear HB; have BK390 := n0_; have HB := n1_; have BK398 := n2_; have GW398 := n3_; have GE398 := n4_; have NB390_398 := n5_; have NB398_390 := n6_; clear n0_ n1_ n2_ n3_ n4_ n5_ n6_; clear hb hbox hg; have hnb45 := NB398_390.out; have hnc45 := NB390_398.out; have hcz46_0 : w44.cell? ⟨gb398, 0, none⟩ = some (.string (⟨#[]⟩ : ByteArray)) := (blk_cell BK398.out 0).trans rfl; have hcz46_1 : w44.cell? ⟨gb398, 1, none⟩ = some (.int .i64 0) := (blk_cell BK398.out 1).trans rfl; have hcz46_2 : w44.cell? ⟨gb398, 2, none⟩ = some (.int .i64 0) := (blk_cell BK398.out 2).trans rfl; have hcz46_3 : w44.cell? ⟨gb398, 3, none⟩ = some (.int .i64 0) := (blk_cell BK398.out 3).trans rfl; have hcz46_4 : w44.cell? ⟨gb398, 4, none⟩ = some (.int .i64 0) := (blk_cell BK398.out 4).trans rfl; have hcz46_5 : w44.cell? ⟨gb398, 5, none⟩ = some (.int .i64 0) := (blk_cell BK398.out 5).trans rfl; have hcz46_6 : w44.cell? ⟨gb398, 6, none⟩ = some (.int .i64 0) := (blk_cell BK398.out 6).trans rfl; have hcz46_7 : w44.cell? ⟨gb398, 7, none⟩ = some (.int .i64 0) := (blk_cell BK398.out 7).trans rfl; have hcz46_8 : w44.cell? ⟨gb398, 8, none⟩ = some (.int .i64 0) := (blk_cell BK398.out 8).trans rfl; have hfz46_0 := blk_frozen BK398.out 0; have hfz46_1 := blk_frozen BK398.out 1; have hfz46_2 := blk_frozen BK398.out 2; have hfz46_3 := blk_frozen BK398.out 3; have hfz46_4 := blk_frozen BK398.out 4; have hfz46_5 := blk_frozen BK398.out 5; have hfz46_6 := blk_frozen BK398.out 6; have hfz46_7 := blk_frozen BK398.out 7; have hfz46_8 := blk_frozen BK398.out 8))
                   have n0_ : Aside0 ((((((((((w44.setCell ⟨gb398, 0, none⟩ (.string ((rd_T43 l0_2 x6_2).f0))).setCell ⟨gb398, 1, none⟩ (.int .i64 ((rd_T43 l0_2 x6_2).f1))).setCell ⟨gb398, 2, none⟩ (.int .i64 ((rd_T43 l0_2 x6_2).f2))).setCell ⟨gb398, 3, none⟩ (.int .i64 ((rd_T43 l0_2 x6_2).f3.f0))).setCell ⟨gb398, 4, none⟩ (.int .i64 ((rd_T43 l0_2 x6_2).f3.f1))).setCell ⟨gb398, 5, none⟩ (.int .i64 ((rd_T43 l0_2 x6_2).f3.f2))).setCell ⟨gb398, 6, none⟩ (.int .i64 ((rd_T43 l0_2 x6_2).f3.f3))).setCell ⟨gb398, 7, none⟩ (.int .i64 ((rd_T43 l0_2 x6_2).f3.f4))).setCell ⟨gb398, 8, none⟩ (.int .i64 ((rd_T43 l0_2 x6_2).f3.f5))).heap[gb390]? = some (.cells #[.int .i64 a0_0, .slice A0_1 l0_1.length c0_1, .slice (some ad397) l0_2.length c0_2] 26 (0, 0))) := ⟨by (with_reducible repeat (first | refine blk_drewN ?_ _ | refine blk_drew ?_ | refine blk_alloc ?_ _)); refine blk_far ?_ NB390_398.out _; (with_reducible repeat (first | refine blk_drewN ?_ _ | refine blk_drew ?_ | refine blk_alloc ?_ _)); refine blk_far ?_ NB390_398.out _; (with_reducible repeat (first | refine blk_drewN ?_ _ | refine blk_drew ?_ | refine blk_alloc ?_ _)); refine blk_far ?_ NB390_398.out _; (with_reducible repeat (first | refine blk_drewN ?_ _ | refine blk_drew ?_ | refine blk_alloc ?_ _)); refine blk_far ?_ NB390_398.out _; (with_reducible repeat (first | refine blk_drewN ?_ _ | refine blk_drew ?_ | refine blk_alloc ?_ _)); refine blk_far ?_ NB390_398.out _; (with_reducible repeat (first | refine blk_drewN ?_ _ | refine blk_drew ?_ | refine blk_alloc ?_ _)); refine blk_far ?_ NB390_398.out _; (with_reducible repeat (first | refine blk_drewN ?_ _ | refine blk_drew ?_ | refine blk_alloc ?_ _)); refine blk_far ?_ NB390_398.out _; (with_reducible repeat (first | refine blk_drewN ?_ _ | refine blk_drew ?_ | refine blk_alloc ?_ _)); refine blk_far ?_ NB390_398.out _; (with_reducible repeat (first | refine blk_drewN ?_ _ | refine blk_drew ?_ | refine blk_alloc ?_ _)); refine blk_far ?_ NB390_398.out _; (with_reducible repeat (first | refine blk_drewN ?_ _ | refine blk_drew ?_ | refine blk_alloc ?_ _)); exact BK390.out⟩
                   have n1_ : Aside0 ((((((((((w44.setCell ⟨gb398, 0, none⟩ (.string ((rd_T43 l0_2 x6_2).f0))).setCell ⟨gb398, 1, none⟩ (.int .i64 ((rd_T43 l0_2 x6_2).f1))).setCell ⟨gb398, 2, none⟩ (.int .i64 ((rd_T43 l0_2 x6_2).f2))).setCell ⟨gb398, 3, none⟩ (.int .i64 ((rd_T43 l0_2 x6_2).f3.f0))).setCell ⟨gb398, 4, none⟩ (.int .i64 ((rd_T43 l0_2 x6_2).f3.f1))).setCell ⟨gb398, 5, none⟩ (.int .i64 ((rd_T43 l0_2 x6_2).f3.f2))).setCell ⟨gb398, 6, none⟩ (.int .i64 ((rd_T43 l0_2 x6_2).f3.f3))).setCell ⟨gb398, 7, none⟩ (.int .i64 ((rd_T43 l0_2 x6_2).f3.f4))).setCell ⟨gb398, 8, none⟩ (.int .i64 ((rd_T43 l0_2 x6_2).f3.f5))).heap[gb398]? = some (.cells #[.string ((rd_T43 l0_2 x6_2).f0), .int .i64 ((rd_T43 l0_2 x6_2).f1), .int .i64 ((rd_T43 l0_2 x6_2).f2), .int .i64 ((rd_T43 l0_2 x6_2).f3.f0), .int .i64 ((rd_T43 l0_2 x6_2).f3.f1), .int .i64 ((rd_T43 l0_2 x6_2).f3.f2), .int .i64 ((rd_T43 l0_2 x6_2).f3.f3), .int .i64 ((rd_T43 l0_2 x6_2).f3.f4), .int .i64 ((rd_T43 l0_2 x6_2).f3.f5)] 43 (0, 0))) := ⟨by (with_reducible repeat (first | refine blk_drewN ?_ _ | refine blk_drew ?_ | refine blk_alloc ?_ _)); refine blk_put (cs := #[.string ((rd_T43 l0_2 x6_2).f0), .int .i64 ((rd_T43 l0_2 x6_2).f1), .int .i64 ((rd_T43 l0_2 x6_2).f2), .int .i64 ((rd_T43 l0_2 x6_2).f3.f0), .int .i64 ((rd_T43 l0_2 x6_2).f3.f1), .int .i64 ((rd_T43 l0_2 x6_2).f3.f2), .int .i64 ((rd_T43 l0_2 x6_2).f3.f3), .int .i64 ((rd_T43 l0_2 x6_2).f3.f4), .int .i64 0]) ?_ 8 _ rfl; (with_reducible repeat (first | refine blk_drewN ?_ _ | refine blk_drew ?_ | refine blk_alloc ?_ _)); refine blk_put (cs := #[.string ((rd_T43 l0_2 x6_2).f0), .int .i64 ((rd_T43 l0_2 x6_2).f1), .int .i64 ((rd_T43 l0_2 x6_2).f2), .int .i64 ((rd_T43 l0_2 x6_2).f3.f0), .int .i64 ((rd_T43 l0_2 x6_2).f3.f1), .int .i64 ((rd_T43 l0_2 x6_2).f3.f2), .int .i64 ((rd_T43 l0_2 x6_2).f3.f3), .int .i64 0, .int .i64 0]) ?_ 7 _ rfl; (with_reducible repeat (first | refine blk_drewN ?_ _ | refine blk_drew ?_ | refine blk_alloc ?_ _)); refine blk_put (cs := #[.string ((rd_T43 l0_2 x6_2).f0), .int .i64 ((rd_T43 l0_2 x6_2).f1), .int .i64 ((rd_T43 l0_2 x6_2).f2), .int .i64 ((rd_T43 l0_2 x6_2).f3.f0), .int .i64 ((rd_T43 l0_2 x6_2).f3.f1), .int .i64 ((rd_T43 l0_2 x6_2).f3.f2), .int .i64 0, .int .i64 0, .int .i64 0]) ?_ 6 _ rfl; (with_reducible repeat (first | refine blk_drewN ?_ _ | refine blk_drew ?_ | refine blk_alloc ?_ _)); refine blk_put (cs := #[.string ((rd_T43 l0_2 x6_2).f0), .int .i64 ((rd_T43 l0_2 x6_2).f1), .int .i64 ((rd_T43 l0_2 x6_2).f2), .int .i64 ((rd_T43 l0_2 x6_2).f3.f0), .int .i64 ((rd_T43 l0_2 x6_2).f3.f1), .int .i64 0, .int .i64 0, .int .i64 0, .int .i64 0]) ?_ 5 _ rfl; (with_reducible repeat (first | refine blk_drewN ?_ _ | refine blk_drew ?_ | refine blk_alloc ?_ _)); refine blk_put (cs := #[.string ((rd_T43 l0_2 x6_2).f0), .int .i64 ((rd_T43 l0_2 x6_2).f1), .int .i64 ((rd_T43 l0_2 x6_2).f2), .int .i64 ((rd_T43 l0_2 x6_2).f3.f0), .int .i64 0, .int .i64 0, .int .i64 0, .int .i64 0, .int .i64 0]) ?_ 4 _ rfl; (with_reducible repeat (first | refine blk_drewN ?_ _ | refine blk_drew ?_ | refine blk_alloc ?_ _)); refine blk_put (cs := #[.string ((rd_T43 l0_2 x6_2).f0), .int .i64 ((rd_T43 l0_2 x6_2).f1), .int .i64 ((rd_T43 l0_2 x6_2).f2), .int .i64 0, .int .i64 0, .int .i64 0, .int .i64 0, .int .i64 0, .int .i64 0]) ?_ 3 _ rfl; (with_reducible repeat (first | refine blk_drewN ?_ _ | refine blk_drew ?_ | refine blk_alloc ?_ _)); refine blk_put (cs := #[.string ((rd_T43 l0_2 x6_2).f0), .int .i64 ((rd_T43 l0_2 x6_2).f1), .int .i64 0, .int .i64 0, .int .i64 0, .int .i64 0, .int .i64 0, .int .i64 0, .int .i64 0]) ?_ 2 _ rfl; (with_reducible repeat (first | refine blk_drewN ?_ _ | refine blk_drew ?_ | refine blk_alloc ?_ _)); refine blk_put (cs := #[.string ((rd_T43 l0_2 x6_2).f0), .int .i64 0, .int .i64 0, .int .i64 0, .int .i64 0, .int .i64 0, .int .i64 0, .int .i64 0, .int .i64 0]) ?_ 1 _ rfl; (with_reducible repeat (first | refine blk_drewN ?_ _ | refine blk_drew ?_ | refine blk_alloc ?_ _)); refine blk_put (cs := #[.string (⟨#[]⟩ : ByteArray), .int .i64 0, .int .i64 0, .int .i64 0, .int .i64 0, .int .i64 0, .int .i64 0, .int .i64 0, .int .i64 0]) ?_ 0 _ rfl; (with_reducible repeat (first | refine blk_drewN ?_ _ | refine blk_drew ?_ | refine blk_alloc ?_ _)); exact BK398.out⟩
                   have n2_ : Aside0 (Below w.heap.size w (((((((((w44.setCell ⟨gb398, 0, none⟩ (.string ((rd_T43 l0_2 x6_2).f0))).setCell ⟨gb398, 1, none⟩ (.int .i64 ((rd_T43 l0_2 x6_2).f1))).setCell ⟨gb398, 2, none⟩ (.int .i64 ((rd_T43 l0_2 x6_2).f2))).setCell ⟨gb398, 3, none⟩ (.int .i64 ((rd_T43 l0_2 x6_2).f3.f0))).setCell ⟨gb398, 4, none⟩ (.int .i64 ((rd_T43 l0_2 x6_2).f3.f1))).setCell ⟨gb398, 5, none⟩ (.int .i64 ((rd_T43 l0_2 x6_2).f3.f2))).setCell ⟨gb398, 6, none⟩ (.int .i64 ((rd_T43 l0_2 x6_2).f3.f3))).setCell ⟨gb398, 7, none⟩ (.int .i64 ((rd_T43 l0_2 x6_2).f3.f4))).setCell ⟨gb398, 8, none⟩ (.int .i64 ((rd_T43 l0_2 x6_2).f3.f5)))) := ⟨by repeat (first | (with_reducible first | exact HB.out | apply below_alloc | apply pw_below_drewN | apply below_drew1 | refine below_set ?_ GE390.out | refine below_set ?_ GE398.out) | exact HB.out)⟩
                   (try clear BK390)
                   (try clear BK398)
                   (try clear HB)
                   generalize (((((((((w44.setCell ⟨gb398, 0, none⟩ (.string ((rd_T43 l0_2 x6_2).f0))).setCell ⟨gb398, 1, none⟩ (.int .i64 ((rd_T43 l0_2 x6_2).f1))).setCell ⟨gb398, 2, none⟩ (.int .i64 ((rd_T43 l0_2 x6_2).f2))).setCell ⟨gb398, 3, none⟩ (.int .i64 ((rd_T43 l0_2 x6_2).f3.f0))).setCell ⟨gb398, 4, none⟩ (.int .i64 ((rd_T43 l0_2 x6_2).f3.f1))).setCell ⟨gb398, 5, none⟩ (.int .i64 ((rd_T43 l0_2 x6_2).f3.f2))).setCell ⟨gb398, 6, none⟩ (.int .i64 ((rd_T43 l0_2 x6_2).f3.f3))).setCell ⟨gb398, 7, none⟩ (.int .i64 ((rd_T43 l0_2 x6_2).f3.f4))).setCell ⟨gb398, 8, none⟩ (.int .i64 ((rd_T43 l0_2 x6_2).f3.f5))) = w47 at n0_ n1_ n2_ ⊢
                   have BK390 := n0_
                   have BK398 := n1_
                   have HB := n2_
                   clear n0_ n1_ n2_
                   have n0_ := Aside0.mk (blk_drew BK390.out)
                   have n1_ := Aside0.mk (blk_drew BK398.out)
                   have n2_ := Aside0.mk (below_drew1 HB.out)
                   clear BK390
                   clear BK398
                   clear HB
                   have BK390 := n0_
                   have BK398 := n1_
                   have HB := n2_
                   clear n0_ n1_ n2_
                   refine start_ (n := 22) (S := fun w' => w'.cell? ⟨gb398, 0, none⟩ = some (.string ((rd_T43 l0_2 x6_2).f0)) ∧ w'.cell? ⟨gb398, 1, none⟩ = some (.int .i64 ((rd_T43 l0_2 x6_2).f1)) ∧ w'.cell? ⟨gb398, 2, none⟩ = some (.int .i64 ((rd_T43 l0_2 x6_2).f2)) ∧ w'.cell? ⟨gb398, 3, none⟩ = some (.int .i64 ((rd_T43 l0_2 x6_2).f3.f0)) ∧ w'.cell? ⟨gb398, 4, none⟩ = some (.int .i64 ((rd_T43 l0_2 x6_2).f3.f1)) ∧ w'.cell? ⟨gb398, 5, none⟩ = some (.int .i64 ((rd_T43 l0_2 x6_2).f3.f2)) ∧ w'.cell? ⟨gb398, 6, none⟩ = some (.int .i64 ((rd_T43 l0_2 x6_2).f3.f3)) ∧ w'.cell? ⟨gb398, 7, none⟩ = some (.int .i64 ((rd_T43 l0_2 x6_2).f3.f4)) ∧ w'.cell? ⟨gb398, 8, none⟩ = some (.int .i64 ((rd_T43 l0_2 x6_2).f3.f5))) (ds := []) #[false, false, false, false, false, false, false, false, false, false, false, false, false, false, false, false, false, false, false, false, false, false] (by kernel_rfl) rfl rfl ⟨(blk_cell BK398.out 0).trans rfl, (blk_cell BK398.out 1).trans rfl, (blk_cell BK398.out 2).trans rfl, (blk_cell BK398.out 3).trans rfl, (blk_cell BK398.out 4).trans rfl, (blk_cell BK398.out 5).trans rfl, (blk_cell BK398.out 6).trans rfl, (blk_cell BK398.out 7).trans rfl, (blk_cell BK398.out 8).trans rfl⟩ (fun hHeld => ?_); refine with_tabW computusref26_Print.tab11 computusref26_Print.bits11 (fun HT_ HW_ => ?_)
                   generalize w47.drew = w48 at BK390 BK398 HB hHeld ⊢
                   refine pure_ (i := 0) (N := some 58) (v := ?_) (a' := ?_) #[true, false, false, false, false, false, false, false, false, false, false, false, false, false, false, false, false, false, false, false, false, false] rfl rfl (any_of HT_.out (by kernel_rfl)) (fun _ _ _ h => h) (Or.inl ⟨by rfl, ?_⟩) ?_ ?_
                   rotate_left
                   ·intro w'
                    go_simp
                    with_reducible rfl
                   rotate_left
                   ·simp only [Act.put, List.setIfInBounds_toArray, List.set_cons_zero, List.set_cons_succ, i64_w, i32_w]
                    rfl
                   refine pure_ (i := 1) (N := some 59) (v := ?_) (a' := ?_) #[true, true, false, false, false, false, false, false, false, false, false, false, false, false, false, false, false, false, false, false, false, false] rfl rfl (any_of HT_.out (by kernel_rfl)) (fun _ _ _ h => h) (Or.inl ⟨by rfl, ?_⟩) ?_ ?_
                   rotate_left
                   ·intro w'
                    go_simp
                    with_reducible rfl
                   rotate_left
                   ·simp only [Act.put, List.setIfInBounds_toArray, List.set_cons_zero, List.set_cons_succ, i64_w, i32_w]
                    rfl
                   refine pure_ (i := 2) (N := some 60) (v := ?_) (a' := ?_) #[true, true, true, false, false, false, false, false, false, false, false, false, false, false, false, false, false, false, false, false, false, false] rfl rfl (any_of HT_.out (by kernel_rfl)) (fun _ _ _ h => h) (Or.inl ⟨by rfl, ?_⟩) ?_ ?_
                   rotate_left
                   ·intro w'
                    go_simp
                    with_reducible rfl
                   rotate_left
                   ·simp only [Act.put, List.setIfInBounds_toArray, List.set_cons_zero, List.set_cons_succ, i64_w, i32_w]
                    rfl
                   refine pure_ (i := 6) (N := some 64) (v := ?_) (a' := ?_) #[true, true, true, false, false, false, true, false, false, false, false, false, false, false, false, false, false, false, false, false, false, false] rfl rfl (any_of HT_.out (by kernel_rfl)) (fun _ _ _ h => h) (Or.inl ⟨by rfl, ?_⟩) ?_ ?_
                   rotate_left
                   ·intro w'
                    go_simp
                    with_reducible rfl
                   rotate_left
                   ·simp only [Act.put, List.setIfInBounds_toArray, List.set_cons_zero, List.set_cons_succ, i64_w, i32_w]
                    rfl
                   refine pure_ (i := 11) (N := some 69) (v := ?_) (a' := ?_) #[true, true, true, false, false, false, true, false, false, false, false, true, false, false, false, false, false, false, false, false, false, false] rfl rfl (any_of HT_.out (by kernel_rfl)) (fun _ _ _ h => h) (Or.inl ⟨by rfl, ?_⟩) ?_ ?_
                   rotate_left
                   ·intro w'
                    go_simp
                    with_reducible rfl
                   rotate_left
                   ·simp only [Act.put, List.setIfInBounds_toArray, List.set_cons_zero, List.set_cons_succ, i64_w, i32_w]
                    rfl
                   refine pure_ (i := 16) (N := some 74) (v := ?_) (a' := ?_) #[true, true, true, false, false, false, true, false, false, false, false, true, false, false, false, false, true, false, false, false, false, false] rfl rfl (any_of HT_.out (by kernel_rfl)) (fun _ _ _ h => h) (Or.inl ⟨by rfl, ?_⟩) ?_ ?_
                   rotate_left
                   ·intro w'
                    go_simp
                    with_reducible rfl
                   rotate_left
                   ·simp only [Act.put, List.setIfInBounds_toArray, List.set_cons_zero, List.set_cons_succ, i64_w, i32_w]
                    rfl
                   refine take_ (i := 3) (N := some 61) (v := ?_) (a' := ?_) #[true, true, true, true, false, false, true, false, false, false, false, true, false, false, false, false, true, false, false, false, false, false] rfl rfl (take_ofW HT_.out HW_.out (by kernel_rfl)) (fun _ _ _ h => h) (Or.inl ⟨by rfl, ?_⟩) hHeld ?_ ?_
                   rotate_left
                   ·rintro w' ⟨s0, s1, s2, s3, s4, s5, s6, s7, s8⟩
                    go_simp
                    with_reducible rfl
                   rotate_left
                   ·simp only [Act.put, List.setIfInBounds_toArray, List.set_cons_zero, List.set_cons_succ, i64_w, i32_w]
                    rfl
                   refine pure_ (i := 4) (N := some 62) (v := ?_) (a' := ?_) #[true, true, true, true, true, false, true, false, false, false, false, true, false, false, false, false, true, false, false, false, false, false] rfl rfl (any_of HT_.out (by kernel_rfl)) (fun _ _ _ h => h) (Or.inl ⟨by rfl, ?_⟩) ?_ ?_
                   rotate_left
                   ·intro w'
                    go_simp
                    with_reducible rfl
                   rotate_left
                   ·simp only [Act.put, List.setIfInBounds_toArray, List.set_cons_zero, List.set_cons_succ, i64_w, i32_w]
                    rfl
                   refine pure_ (i := 5) (N := some 63) (v := ?_) (a' := ?_) #[true, true, true, true, true, true, true, false, false, false, false, true, false, false, false, false, true, false, false, false, false, false] rfl rfl (any_of HT_.out (by kernel_rfl)) (fun _ _ _ h => h) (Or.inl ⟨by rfl, ?_⟩) ?_ ?_
                   rotate_left
                   ·intro w'
                    go_simp
                    with_reducible rfl
                   rotate_left
                   ·simp only [Act.put, List.setIfInBounds_toArray, List.set_cons_zero, List.set_cons_succ, i64_w, i32_w]
                    rfl
                   refine take_ (i := 7) (N := some 65) (v := ?_) (a' := ?_) #[true, true, true, true, true, true, true, true, false, false, false, true, false, false, false, false, true, false, false, false, false, false] rfl rfl (take_ofW HT_.out HW_.out (by kernel_rfl)) (fun _ _ _ h => h) (Or.inl ⟨by rfl, ?_⟩) hHeld ?_ ?_
                   rotate_left
                   ·rintro w' ⟨s0, s1, s2, s3, s4, s5, s6, s7, s8⟩
                    go_simp
                    with_reducible rfl
                   rotate_left
                   ·simp only [Act.put, List.setIfInBounds_toArray, List.set_cons_zero, List.set_cons_succ, i64_w, i32_w]
                    rfl
                   refine take_ (i := 12) (N := some 70) (v := ?_) (a' := ?_) #[true, true, true, true, true, true, true, true, false, false, false, true, true, false, false, false, true, false, false, false, false, false] rfl rfl (take_ofW HT_.out HW_.out (by kernel_rfl)) (fun _ _ _ h => h) (Or.inl ⟨by rfl, ?_⟩) hHeld ?_ ?_
                   rotate_left
                   ·rintro w' ⟨s0, s1, s2, s3, s4, s5, s6, s7, s8⟩
                    go_simp
                    with_reducible rfl
                   rotate_left
                   ·simp only [Act.put, List.setIfInBounds_toArray, List.set_cons_zero, List.set_cons_succ, i64_w, i32_w]
                    rfl
                   refine take_ (i := 17) (N := some 75) (v := ?_) (a' := ?_) #[true, true, true, true, true, true, true, true, false, false, false, true, true, false, false, false, true, true, false, false, false, false] rfl rfl (take_ofW HT_.out HW_.out (by kernel_rfl)) (fun _ _ _ h => h) (Or.inl ⟨by rfl, ?_⟩) hHeld ?_ ?_
                   rotate_left
                   ·rintro w' ⟨s0, s1, s2, s3, s4, s5, s6, s7, s8⟩
                    go_simp
                    with_reducible rfl
                   rotate_left
                   ·simp only [Act.put, List.setIfInBounds_toArray, List.set_cons_zero, List.set_cons_succ, i64_w, i32_w]
                    rfl
                   refine one_ (i := 8) (N := some 66) #[true, true, true, true, true, true, true, true, true, false, false, true, true, false, false, false, true, true, false, false, false, false] rfl rfl (one_of HT_.out (by kernel_rfl)) (by decide) (fun K hK => ?_)
                   refine goes_ Tryd.func33 (by kernel_rfl) rfl #[.int .i64 ((rd_T43 l0_2 x6_2).f1)] (by rfl) rfl rfl (by (try simp only [List.map_toArray, List.map_cons, List.map_nil]); first | done | rfl | (simp only [List.length_drop, List.length_take]; rfl)) ?_
                   with_reducible refine (computusref26_Num.calls k2 ((rd_T43 l0_2 x6_2).f1) t399 _ A34.out).mono ?_
                   rintro e w' ⟨rfl, ⟨nd, rfl⟩⟩
                   refine ⟨_, rfl, ?_⟩
                   refine hK.out _ _ (by first | exact ⟨(blk_cell BK398.out 0).trans rfl, (blk_cell BK398.out 1).trans rfl, (blk_cell BK398.out 2).trans rfl, (blk_cell BK398.out 3).trans rfl, (blk_cell BK398.out 4).trans rfl, (blk_cell BK398.out 5).trans rfl, (blk_cell BK398.out 6).trans rfl, (blk_cell BK398.out 7).trans rfl, (blk_cell BK398.out 8).trans rfl⟩ | exact hHeld) (fun hHeld => ?_)
                   clear hK K
                   refine norm_ (a' := ?_) ?_ ?_
                   rotate_left
                   ·show Act.put _ (some 66) _ = _
                    simp only [Act.put, List.setIfInBounds_toArray, List.set_cons_zero, List.set_cons_succ, i64_w, i32_w]
                    rfl
                   refine pure_ (i := 9) (N := some 67) (v := ?_) (a' := ?_) #[true, true, true, true, true, true, true, true, true, true, false, true, true, false, false, false, true, true, false, false, false, false] rfl rfl (any_of HT_.out (by kernel_rfl)) (fun _ _ _ h => h) (Or.inl ⟨by rfl, ?_⟩) ?_ ?_
                   rotate_left
                   ·intro w'
                    go_simp
                    with_reducible rfl
                   rotate_left
                   ·simp only [Act.put, List.setIfInBounds_toArray, List.set_cons_zero, List.set_cons_succ, i64_w, i32_w]
                    rfl
                   refine pure_ (i := 10) (N := some 68) (v := ?_) (a' := ?_) #[true, true, true, true, true, true, true, true, true, true, true, true, true, false, false, false, true, true, false, false, false, false] rfl rfl (any_of HT_.out (by kernel_rfl)) (fun _ _ _ h => h) (Or.inl ⟨by rfl, ?_⟩) ?_ ?_
                   rotate_left
                   ·intro w'
                    go_simp
                    with_reducible rfl
                   rotate_left
                   ·simp only [Act.put, List.setIfInBounds_toArray, List.set_cons_zero, List.set_cons_succ, i64_w, i32_w]
                    rfl
                   refine one_ (i := 13) (N := some 71) #[true, true, true, true, true, true, true, true, true, true, true, true, true, true, false, false, true, true, false, false, false, false] rfl rfl (one_of HT_.out (by kernel_rfl)) (by decide) (fun K hK => ?_)
                   refine goes_ Tryd.func35 (by kernel_rfl) rfl #[.int .i64 ((rd_T43 l0_2 x6_2).f2)] (by rfl) rfl rfl (by (try simp only [List.map_toArray, List.map_cons, List.map_nil]); first | done | rfl | (simp only [List.length_drop, List.length_take]; rfl)) ?_
                   with_reducible refine (computusref26_policy.calls ((rd_T43 l0_2 x6_2).f2) t400 _ A37.out).mono ?_
                   rintro e w' ⟨rfl, ⟨nd, rfl⟩⟩
                   refine ⟨_, rfl, ?_⟩
                   refine hK.out _ _ (by first | exact ⟨(blk_cell BK398.out 0).trans rfl, (blk_cell BK398.out 1).trans rfl, (blk_cell BK398.out 2).trans rfl, (blk_cell BK398.out 3).trans rfl, (blk_cell BK398.out 4).trans rfl, (blk_cell BK398.out 5).trans rfl, (blk_cell BK398.out 6).trans rfl, (blk_cell BK398.out 7).trans rfl, (blk_cell BK398.out 8).trans rfl⟩ | exact hHeld) (fun hHeld => ?_)
                   clear hK K
                   refine norm_ (a' := ?_) ?_ ?_
                   rotate_left
                   ·show Act.put _ (some 71) _ = _
                    simp only [Act.put, List.setIfInBounds_toArray, List.set_cons_zero, List.set_cons_succ, i64_w, i32_w]
                    rfl
                   refine pure_ (i := 14) (N := some 72) (v := ?_) (a' := ?_) #[true, true, true, true, true, true, true, true, true, true, true, true, true, true, true, false, true, true, false, false, false, false] rfl rfl (any_of HT_.out (by kernel_rfl)) (fun _ _ _ h => h) (Or.inl ⟨by rfl, ?_⟩) ?_ ?_
                   rotate_left
                   ·intro w'
                    go_simp
                    with_reducible rfl
                   rotate_left
                   ·simp only [Act.put, List.setIfInBounds_toArray, List.set_cons_zero, List.set_cons_succ, i64_w, i32_w]
                    rfl
                   refine pure_ (i := 15) (N := some 73) (v := ?_) (a' := ?_) #[true, true, true, true, true, true, true, true, true, true, true, true, true, true, true, true, true, true, false, false, false, false] rfl rfl (any_of HT_.out (by kernel_rfl)) (fun _ _ _ h => h) (Or.inl ⟨by rfl, ?_⟩) ?_ ?_
                   rotate_left
                   ·intro w'
                    go_simp
                    with_reducible rfl
                   rotate_left
                   ·simp only [Act.put, List.setIfInBounds_toArray, List.set_cons_zero, List.set_cons_succ, i64_w, i32_w]
                    rfl
                   refine one_ (i := 18) (N := some 76) #[true, true, true, true, true, true, true, true, true, true, true, true, true, true, true, true, true, true, true, false, false, false] rfl rfl (one_of HT_.out (by kernel_rfl)) (by decide) (fun K hK => ?_)
                   refine goes_ Tryd.func34 (by kernel_rfl) rfl #[.agg #[.int .i64 ((rd_T43 l0_2 x6_2).f3.f0), .int .i64 ((rd_T43 l0_2 x6_2).f3.f1), .int .i64 ((rd_T43 l0_2 x6_2).f3.f2), .int .i64 ((rd_T43 l0_2 x6_2).f3.f3), .int .i64 ((rd_T43 l0_2 x6_2).f3.f4), .int .i64 ((rd_T43 l0_2 x6_2).f3.f5)]] (by rfl) rfl rfl (by (try simp only [List.map_toArray, List.map_cons, List.map_nil]); first | done | rfl | (simp only [List.length_drop, List.length_take]; rfl)) ?_
                   with_reducible refine (computusref26_anchor.calls k2 ((rd_T43 l0_2 x6_2).f3.f0) ((rd_T43 l0_2 x6_2).f3.f1) ((rd_T43 l0_2 x6_2).f3.f2) ((rd_T43 l0_2 x6_2).f3.f3) ((rd_T43 l0_2 x6_2).f3.f4) ((rd_T43 l0_2 x6_2).f3.f5) t401 _ A40.out).mono ?_
                   rintro e w49 ⟨rfl, hb⟩
                   refine ⟨_, rfl, ?_⟩
                   have n0_ := Aside0.mk (blk_below (g := gb390) (o := .cells #[.int .i64 a0_0, .slice A0_1 l0_1.length c0_1, .slice (some ad397) l0_2.length c0_2] 26 (0, 0)) (by (with_reducible repeat (first | refine blk_drewN ?_ _ | refine blk_drew ?_ | refine blk_alloc ?_ _)); exact BK390.out) hb)
                   have n1_ := Aside0.mk (blk_below (g := gb398) (o := .cells #[.string ((rd_T43 l0_2 x6_2).f0), .int .i64 ((rd_T43 l0_2 x6_2).f1), .int .i64 ((rd_T43 l0_2 x6_2).f2), .int .i64 ((rd_T43 l0_2 x6_2).f3.f0), .int .i64 ((rd_T43 l0_2 x6_2).f3.f1), .int .i64 ((rd_T43 l0_2 x6_2).f3.f2), .int .i64 ((rd_T43 l0_2 x6_2).f3.f3), .int .i64 ((rd_T43 l0_2 x6_2).f3.f4), .int .i64 ((rd_T43 l0_2 x6_2).f3.f5)] 43 (0, 0)) (by (with_reducible repeat (first | refine blk_drewN ?_ _ | refine blk_drew ?_ | refine blk_alloc ?_ _)); exact BK398.out) hb)
                   have n2_ := Aside0.mk (below_step (by repeat (first | (with_reducible first | exact HB.out | apply below_alloc | apply pw_below_drewN | apply below_drew1 | refine below_set ?_ GE390.out | refine below_set ?_ GE398.out) | exact HB.out)) hb)
                   clear BK390
                   clear BK398
                   clear HB
                   have BK390 := n0_
                   have BK398 := n1_
                   have HB := n2_
                   clear n0_ n1_ n2_
                   (try clear hb)
                   (try clear hb2)
                   (try clear hk)
                   (try clear hi)
                   refine hK.out _ _ (by first | exact ⟨(blk_cell BK398.out 0).trans rfl, (blk_cell BK398.out 1).trans rfl, (blk_cell BK398.out 2).trans rfl, (blk_cell BK398.out 3).trans rfl, (blk_cell BK398.out 4).trans rfl, (blk_cell BK398.out 5).trans rfl, (blk_cell BK398.out 6).trans rfl, (blk_cell BK398.out 7).trans rfl, (blk_cell BK398.out 8).trans rfl⟩ | exact hHeld) (fun hHeld => ?_)
                   clear hK K
                   refine norm_ (a' := ?_) ?_ ?_
                   rotate_left
                   ·show Act.put _ (some 76) _ = _
                    simp only [Act.put, List.setIfInBounds_toArray, List.set_cons_zero, List.set_cons_succ, i64_w, i32_w]
                    rfl
                   refine pure_ (i := 19) (N := some 77) (v := ?_) (a' := ?_) #[true, true, true, true, true, true, true, true, true, true, true, true, true, true, true, true, true, true, true, true, false, false] rfl rfl (any_of HT_.out (by kernel_rfl)) (fun _ _ _ h => h) (Or.inl ⟨by rfl, ?_⟩) ?_ ?_
                   rotate_left
                   ·intro w'
                    go_simp
                    with_reducible rfl
                   rotate_left
                   ·simp only [Act.put, List.setIfInBounds_toArray, List.set_cons_zero, List.set_cons_succ, i64_w, i32_w]
                    rfl
                   refine pure_ (i := 20) (N := some 78) (v := ?_) (a' := ?_) #[true, true, true, true, true, true, true, true, true, true, true, true, true, true, true, true, true, true, true, true, true, false] rfl rfl (any_of HT_.out (by kernel_rfl)) (fun _ _ _ h => h) (Or.inl ⟨by rfl, ?_⟩) ?_ ?_
                   rotate_left
                   ·intro w'
                    go_simp
                    with_reducible rfl
                   rotate_left
                   ·simp only [Act.put, List.setIfInBounds_toArray, List.set_cons_zero, List.set_cons_succ, i64_w, i32_w]
                    rfl
                   refine pure_ (i := 21) (N := some 3) (v := ?_) (a' := ?_) #[true, true, true, true, true, true, true, true, true, true, true, true, true, true, true, true, true, true, true, true, true, true] rfl rfl (any_of HT_.out (by kernel_rfl)) (fun _ _ _ h => h) (Or.inl ⟨by rfl, ?_⟩) ?_ ?_
                   rotate_left
                   ·intro w'
                    go_simp
                    with_reducible rfl
                   rotate_left
                   ·simp only [Act.put, List.setIfInBounds_toArray, List.set_cons_zero, List.set_cons_succ, i64_w, i32_w]
                    rfl
                   refine done_ (done_of HT_.out (by kernel_rfl)) ?_
                   try go_wp2
                   go_roundg k2
                   case measure => have := HK1.out; have := HK2.out; omega
                   case rel => exact ⟨(((((((((x3_2 ++ (⟨#[102, 101, 97, 115, 116, 32]⟩ : ByteArray)) ++ ((rd_T43 l0_2 x6_2).f0)) ++ (⟨#[32]⟩ : ByteArray)) ++ t399) ++ (⟨#[32]⟩ : ByteArray)) ++ t400) ++ (⟨#[32]⟩ : ByteArray)) ++ t401) ++ (⟨#[10]⟩ : ByteArray)), (wrap64 (x6_2 + 1)), (by first | rfl | (simp; done) | (simp [*]; done)), (by first | rfl | (simp; done) | (simp [*]; done)), H', ⟨by have := HK1.out; have := HK2.out; omega⟩, ⟨by (with_reducible repeat (first | refine blk_drewN ?_ _ | refine blk_drew ?_ | refine blk_alloc ?_ _)); exact BK390.out⟩, ⟨by repeat (first | (with_reducible first | exact HB.out | apply below_alloc | apply pw_below_drewN | apply below_drew1 | refine below_set ?_ GE390.out | refine below_set ?_ GE398.out) | exact HB.out)⟩⟩
                  ·rw [if_neg c42] at H
                   exact absurd H (by simp)
                 ·rw [if_neg c41] at H
                  exact absurd H (by simp)
                ·rw [if_neg c39] at H
                 exact absurd H (by simp)
               ·rw [if_neg c38] at H
                exact absurd H (by simp)
              ·rw [if_neg c36] at H
               exact absurd H (by simp)
             ·rw [if_neg c35] at H
              exact absurd H (by simp)
            ·rw [if_neg c33] at H
             exact absurd H (by simp)
           ·rw [if_neg c32] at H
            exact absurd H (by simp)
          ·rw [if_neg c31] at H
           exact absurd H (by simp)
         ·rw [if_neg c30] at H
          exact absurd H (by simp)
        ·rw [if_neg c29] at H
         have c29b0 : decide (x6_2 < (l0_2.length : Int)) = false := decide_eq_false c29
         clear c29
         by_cases c50 : x3_2.size + 4 ≤ 9223372036854775807
         ·rw [if_pos c50] at H
          have c50b0 := eq_true c50
          have c50b1 : decide (x3_2.size + 4 ≤ 9223372036854775807) = true := decide_eq_true c50
          try have c50b2 : (9223372036854775807 < x3_2.size + 4) = False := eq_false (Nat.not_lt.2 c50)
          obtain rfl := Option.some.inj H
          have hcz51_0 : wr.cell? ⟨gb390, 0, none⟩ = some (.int .i64 a0_0) := (blk_cell BK390.out 0).trans rfl
          have hcz51_1 : wr.cell? ⟨gb390, 1, none⟩ = some (.slice A0_1 l0_1.length c0_1) := (blk_cell BK390.out 1).trans rfl
          have hcz51_2 : wr.cell? ⟨gb390, 2, none⟩ = some (.slice A0_2 l0_2.length c0_2) := (blk_cell BK390.out 2).trans rfl
          have hfz51_0 := blk_frozen BK390.out 0
          have hfz51_1 := blk_frozen BK390.out 1
          have hfz51_2 := blk_frozen BK390.out 2
          go_wp2
          go_ret
          exact ⟨by first | rfl | (simp [errW_none, errW_some] <;> rfl) | (simp [*, errW_none, errW_some] <;> rfl), by repeat (first | (with_reducible first | exact HB.out | apply below_alloc | apply pw_below_drewN | apply below_drew1 | refine below_set ?_ GE390.out) | exact HB.out)⟩
         ·rw [if_neg c50] at H
          exact absurd H (by simp)
  ·rw [if_neg c4] at H
   exact absurd H (by simp)
 ·rw [if_neg c3] at H
  exact absurd H (by simp)






end Go.Proofs.YtlfokdbnbmebiaaDoor.Q
end
