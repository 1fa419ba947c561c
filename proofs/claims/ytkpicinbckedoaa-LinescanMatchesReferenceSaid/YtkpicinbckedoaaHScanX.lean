/- What is proved: what the scan that Word hands to guard does. -/
import Derived.Test.YtkpicinbckedoaaHScanW
namespace Go.Proofs.Ytkpicinbckedoaa.Q
open Go.RowKit Go.Proofs.YtkpicinbckedoaaW.PrintWords Go.Proofs.YtkpicinbckedoaaW.PrintLast Go.Proofs.YtkpicinbckedoaaW.PrintMore
set_option linter.unusedVariables false
set_option linter.unusedSimpArgs false

/-- The last place at which t stands in a list (acc where it stands nowhere). -/
def scFind (t : ByteArray) : List ByteArray → Nat → Int → Int
  | [], _, acc => acc
  | x :: xs, i, acc => scFind t xs (i + 1) (if x.toList == t.toList then (i : Int) else acc)
def scWords (s : ByteArray) (F : Nat) (l : List ByteArray) (j : Nat) (c : Int) : Bool := l.any (wFits (s.extract F j) (j - F) c)
def scWordLoop (s : ByteArray) (F : Nat) (l : List ByteArray) : Nat → Nat → Bool × Nat × Int
  | 0, j => (false, j, -1)
  | k + 1, j =>
    if scTake s j (scWords s F l j) then
      (if scFind (s.extract F (j + 1)) l 0 (-1) < 0 then scWordLoop s F l k (j + 1) else (true, j + 1, scFind (s.extract F (j + 1)) l 0 (-1)))
    else (false, j, -1)
def scWord (s : ByteArray) (F : Nat) (l : List ByteArray) : Bool × Nat × Int := scWordLoop s F l (s.size + 2) F

/-- The world of Word's scan: beside SC, the words' box and rows, and the box of the place where the word begins. -/
structure WC (w0 w Ws W : World) (g bx bn bw bf : Nat) (s : ByteArray) (i F : Nat) (v : Int) (A : Option Addr) (cap : Nat) (l : List ByteArray) : Prop where
  S : SC w0 w Ws W g bx bn s (i : Int) (.int .i64 v)
  Wd : W.heap[bw]? = some (.cells #[.slice A l.length cap] 28 (0, 0))
  Fm : W.heap[bf]? = some (.cells #[.int .i64 (F : Int)] 3 (0, 0))
  Rw : WordsAt W A l
  Ap : bw ≠ g ∧ bw ≠ bn ∧ bf ≠ g ∧ bf ≠ bn ∧ (∀ ad, A = some ad → 0 < l.length → ad.block ≠ g ∧ ad.block ≠ bn)

theorem WC.keep {w0 w Ws W W' : World} {g bx bn bw bf : Nat} {s : ByteArray} {i j F : Nat} {v : Int} {A : Option Addr} {cap : Nat} {l : List ByteArray} (h : WC w0 w Ws W g bx bn bw bf s i F v A cap l) (hS : SC w0 w Ws W' g bx bn s (j : Int) (.int .i64 v)) (hK : KeepBut W W' g none) : WC w0 w Ws W' g bx bn bw bf s j F v A cap l :=
  ⟨hS, hK.blk h.Wd h.Ap.1 (by simp), hK.blk h.Fm h.Ap.2.2.1 (by simp), h.Rw.keep (fun k h1 h2 => hK.2 k h1 h2 (by simp)) (fun ad e hl => (h.Ap.2.2.2.2 ad e hl).1), h.Ap⟩
theorem WC.alloc {w0 w Ws W : World} {g bx bn bw bf : Nat} {s : ByteArray} {i F : Nat} {v : Int} {A : Option Addr} {cap : Nat} {l : List ByteArray} (h : WC w0 w Ws W g bx bn bw bf s i F v A cap l) (o : Obj) : WC w0 w Ws (W.alloc o) g bx bn bw bf s i F v A cap l :=
  h.keep (h.S.alloc o) ⟨by rw [World.size_alloc]; omega, fun k hk _ _ => Below.heap_alloc W o k hk⟩
theorem WC.drewN {w0 w Ws W : World} {g bx bn bw bf : Nat} {s : ByteArray} {i F : Nat} {v : Int} {A : Option Addr} {cap : Nat} {l : List ByteArray} (h : WC w0 w Ws W g bx bn bw bf s i F v A cap l) (n : Nat) : WC w0 w Ws (W.drewN n) g bx bn bw bf s i F v A cap l :=
  ⟨h.S.drewN n, h.Wd, h.Fm, h.Rw, h.Ap⟩
theorem WC.setN {w0 w Ws W : World} {g bx bn bw bf : Nat} {s : ByteArray} {i F : Nat} {v : Int} {A : Option Addr} {cap : Nat} {l : List ByteArray} (h : WC w0 w Ws W g bx bn bw bf s i F v A cap l) (u : Int) : WC w0 w Ws (W.setCell ⟨bn, 0, none⟩ (.int .i64 u)) g bx bn bw bf s i F u A cap l :=
  ⟨h.S.setN _, blk_far h.Wd h.Ap.2.1 _, blk_far h.Fm h.Ap.2.2.2.1 _, h.Rw.keep (g := bn) (fun k _ h2 => Below.heap_setCell W _ _ k h2) (fun ad e hl => (h.Ap.2.2.2.2 ad e hl).2), h.Ap⟩
theorem WC.cw {w0 w Ws W : World} {g bx bn bw bf : Nat} {s : ByteArray} {i F : Nat} {v : Int} {A : Option Addr} {cap : Nat} {l : List ByteArray} (h : WC w0 w Ws W g bx bn bw bf s i F v A cap l) : W.cell? ⟨bw, 0, none⟩ = some (.slice A l.length cap) := blk_cell h.Wd 0
theorem WC.cf {w0 w Ws W : World} {g bx bn bw bf : Nat} {s : ByteArray} {i F : Nat} {v : Int} {A : Option Addr} {cap : Nat} {l : List ByteArray} (h : WC w0 w Ws W g bx bn bw bf s i F v A cap l) : W.cell? ⟨bf, 0, none⟩ = some (.int .i64 (F : Int)) := blk_cell h.Fm 0

set_option maxHeartbeats 4000000 in
set_option maxRecDepth 100000 in
theorem word1 (w0 w Ws W : World) (g bx bn bw : Nat) (s : ByteArray) (F : Nat) (A : Option Addr) (cap : Nat) (l : List ByteArray) (hs : s.size ≤ 4611686018427387904) (hFs : F ≤ s.size) (h : SC w0 w Ws W g bx bn s (F : Int) (.int .i64 (-1))) (hw : W.heap[bw]? = some (.cells #[.slice A l.length cap] 28 (0, 0))) (hr : WordsAt W A l) (hA : bw ≠ g ∧ bw ≠ bn ∧ (∀ ad, A = some ad → 0 < l.length → ad.block ≠ g ∧ ad.block ≠ bn)) (hW : W = Ws) :
    Calls Try.prog 38 #[.pointer (some ⟨bx, 0, none⟩), .pointer (some ⟨bn, 0, none⟩), .pointer (some ⟨bw, 0, none⟩)] W fun e W' => e = (if (scWord s F l).1 then .returned (.tuple #[]) else .panicked scFail) ∧ SC w0 w Ws W' g bx bn s ((scWord s F l).2.1 : Int) (.int .i64 (scWord s F l).2.2) := by
  obtain ⟨R, hR⟩ : ∃ R, R = scWord s F l := ⟨_, rfl⟩
  rw [← hR]
  obtain ⟨E, hE⟩ : ∃ E : Ending, E = (if R.1 then .returned (.tuple #[]) else .panicked scFail) := ⟨_, rfl⟩
  rw [← hE]
  have HE := Aside0.mk hE
  have HR := Aside0.mk (show scWordLoop s F l (s.size + 2) F = R from hR.symm)
  have hfs : W.heap.size ≠ g ∧ W.heap.size ≠ bn := by have h1 := blk_lt h.I.1; have h2 := blk_lt h.N; omega
  have HC := Aside0.mk (show WC w0 w Ws (W.alloc (.cells #[.int .i64 (F : Int)] 3)) g bx bn bw W.heap.size s F F (-1) A cap l from
    ⟨h.alloc _, blk_alloc hw _, blk_new W _, hr.keep (g := g) (fun k h1 _ => Below.heap_alloc W _ k h1) (fun ad e hl => (hA.2.2 ad e hl).1), ⟨hA.1, hA.2.1, hfs.1, hfs.2, hA.2.2⟩⟩)
  obtain ⟨J, hJ⟩ : ∃ J, J = R.2.1 := ⟨_, rfl⟩
  obtain ⟨V, hV⟩ : ∃ V, V = R.2.2 := ⟨_, rfl⟩
  rw [← hJ, ← hV]
  have HJ0 := Aside0.mk (And.intro hJ hV)
  have hcx := h.cx
  have hca := h.ca
  have lx := blk_lt h.X
  have lg := blk_lt h.I.1
  clear hR hE hJ hV h hw hr hA hfs hW
  go_enter Try.func38, Try.ntmps38
  go_wp2_with fail
  obtain ⟨W1, hW1⟩ : ∃ W1, W1 = W.alloc (.cells #[.int .i64 (F : Int)] 3) := ⟨_, rfl⟩
  rw [← hW1] at HC
  obtain ⟨bf, hbf⟩ : ∃ bf, bf = W.heap.size := ⟨_, rfl⟩
  rw [← hbf] at HC
  try rw [← hW1]
  try rw [← hbf]
  clear hW1 hbf hcx hca lx lg
  go_loopg [23] (s.size + 3) (fun kq v23 w' => ∃ (j : Nat) (fd : Int), Aside0 ((fd = -1 ∧ ∃ k, kq = k + 1 ∧ scWordLoop s F l k j = R ∧ F ≤ j ∧ j ≤ s.size ∧ s.size + 1 ≤ j + k) ∨ (0 ≤ fd ∧ R = (true, j, fd))) ∧ Aside0 (WC w0 w Ws w' g bx bn bw bf s j F fd A cap l))
  case atStart => exact ⟨F, -1, ⟨.inl ⟨rfl, s.size + 2, rfl, HR.out, Nat.le_refl _, hFs, by omega⟩⟩, HC⟩
  case round =>
    clear HC HR
    obtain ⟨j, fd, HJ, HC⟩ := hrel
    have hcn := HC.out.S.cn
    rcases HJ.out with ⟨hfd, k, hk, hR, hFj, hjs, hfu⟩ | ⟨hfd, hR⟩
    · subst hfd
      subst hk
      obtain ⟨k1, rfl⟩ : ∃ m, k = m + 1 := ⟨k - 1, by omega⟩
      have HR := Aside0.mk hR
      clear hR HJ
      obtain ⟨b, hb⟩ : ∃ b, scTake s j (scWords s F l j) = b := ⟨_, rfl⟩
      have HB := Aside0.mk hb
      have hcx := HC.out.S.cx
      have hca := HC.out.S.ca
      have hcf := HC.out.cf
      have lx := blk_lt HC.out.S.X
      have lg := blk_lt HC.out.S.I.1
      have lf := blk_lt HC.out.Fm
      go_wp2_with fail
      have hwr : IntKind.i64.wrap ((j : Int) - F) = (j : Int) - F := IntWalk.i64_in _ (by omega)
      go_region_held3 (fun w' => w'.cell? ⟨bx, 0, none⟩ = some (.pointer (some ⟨g, 0, none⟩)) ∧ w'.cell? ⟨g, 1, none⟩ = some (.int .i64 j) ∧ w'.cell? ⟨bf, 0, none⟩ = some (.int .i64 F)) (go_keep) (fail)
      have hjF : ((j - F : Nat) : Int) = (j : Int) - F := by omega
      obtain ⟨W2, hW2⟩ : ∃ W2, W2 = (wr.alloc (.cells #[.int .i64 ((j : Int) - F)] 3)).drew := ⟨_, rfl⟩
      obtain ⟨bm, hbm0⟩ : ∃ bm, bm = wr.heap.size := ⟨_, rfl⟩
      have HC2 := Aside0.mk (show WC w0 w Ws W2 g bx bn bw bf s j F (-1) A cap l by rw [hW2]; exact (HC.out.alloc _).drewN 1)
      have HM := Aside0.mk (show W2.heap[bm]? = some (.cells #[.int .i64 ((j - F : Nat) : Int)] 3 (0, 0)) by rw [hW2, hbm0, hjF]; exact blk_new wr _)
      have hbm : bm ≠ g ∧ True := ⟨by omega, trivial⟩
      rw [← hW2, ← hbm0]
      clear hW2 hbm0 HC hcx hca hcf lx lg lf hwr hjF hcn
      have hcx2 := HC2.out.S.cx
      have HMU := Aside0.mk (HC2.out.S.must (p := scWords s F l j) hs (word_ok w0 W2 g bw bm bx bf s F j A cap l HC2.out.Wd HM.out HC2.out.S.X HC2.out.Fm ⟨HC2.out.Ap.1, hbm.1, HC2.out.S.A.1, HC2.out.Ap.2.2.1⟩ hFj hjs HC2.out.Rw (fun ad e hl => (HC2.out.Ap.2.2.2.2 ad e hl).1) hs) HB.out)
      cases b with
      | false =>
        have hR3 : (false, j, -1) = R := by have h2 := HR.out; rw [scWordLoop, if_neg (by rw [hb]; simp)] at h2; exact h2
        subst hR3
        clear hb
        go_wp2_with (go_at_call 39; refine Calls.mono HMU.out ?_; rintro e w3 ⟨he, h3, hk3⟩; simp only [if_true, Bool.false_eq_true, if_false] at he h3; subst he; have HC := Aside0.mk (HC2.out.keep h3 hk3); clear HC2 HM HMU h3 hk3 hcx2)
        exact ⟨rfl, HE.out.symm, by rw [HJ0.out.1, HJ0.out.2]; exact HC.out.S⟩
      | true =>
        have hjl := scTake_lt hb
        have HR3 := Aside0.mk (show (if scFind (s.extract F (j + 1)) l 0 (-1) < 0 then scWordLoop s F l k1 (j + 1) else (true, j + 1, scFind (s.extract F (j + 1)) l 0 (-1))) = R by have h2 := HR.out; rw [scWordLoop, if_pos hb] at h2; exact h2)
        clear hb HR
        go_wp2_with (go_at_call 39; refine Calls.mono HMU.out ?_; rintro e w3 ⟨he, h3, hk3⟩; simp only [if_true, Bool.false_eq_true, if_false] at he h3; subst he; have HC := Aside0.mk (HC2.out.keep h3 hk3); have hcw := HC.out.cw; clear HC2 HM HMU h3 hk3 hcx2)
        obtain ⟨j1, hj1⟩ : ∃ j1, j1 = j + 1 := ⟨_, rfl⟩
        rw [← hj1] at HC HR3
        have hjs1 : j1 ≤ s.size := by omega
        have hjF1 : F ≤ j1 := by omega
        have HJ1 := Aside0.mk hj1
        clear hj1
        obtain ⟨V2, hV2⟩ : ∃ V2, V2 = scFind (s.extract F j1) l 0 (-1) := ⟨_, rfl⟩
        rw [← hV2] at HR3
        have HV2 := Aside0.mk (show scFind (s.extract F j1) (l.drop 0) 0 (-1) = V2 from hV2.symm)
        have HWA := Aside0.mk HC.out.Rw.1
        clear hV2 hcw hbm
        go_loopg [23] l.length (fun kq v23 w' => ∃ (i : Nat) (fd : Int), v23 = .int .i64 i ∧ Aside0 (i + kq = l.length) ∧ Aside0 (-1 ≤ fd ∧ scFind (s.extract F j1) (l.drop i) i fd = V2) ∧ Aside0 (WC w0 w Ws w' g bx bn bw bf s j1 F fd A cap l))
        case atStart => exact ⟨0, -1, rfl, ⟨by omega⟩, ⟨by omega, HV2.out⟩, HC⟩
        case round =>
          clear HC HV2
          obtain ⟨i, fd, rfl, HI, HV, HC⟩ := hrel
          have hi0 := HI.out
          by_cases hk0 : gk = 0
          · have hi : ¬ (i : Int) < (l.length : Int) := by omega
            have hfv : fd = V2 := by rw [← HV.out.2, List.drop_eq_nil_of_le (by omega)]; rfl
            have hfm := HV.out.1
            subst hk0
            go_wp2_with fail
            go_roundg (k1 + 1)
            case measure => omega
            case rel =>
              refine ⟨j1, fd, ⟨?_⟩, HC⟩
              have h2 := HR3.out
              rw [← hfv] at h2
              by_cases hn : fd < 0
              · rw [if_pos hn] at h2
                exact .inl ⟨by omega, k1, rfl, h2, by omega, by omega, by have := HJ1.out; omega⟩
              · rw [if_neg hn] at h2
                exact .inr ⟨by omega, h2.symm⟩
          · obtain ⟨k2, rfl⟩ : ∃ m, gk = m + 1 := ⟨gk - 1, by omega⟩
            have hi : (i : Int) < (l.length : Int) := by omega
            have hin : i < l.length := by omega
            have hi2 : (i : Int) + 1 ≤ 9223372036854775807 := by have := HWA.out; omega
            obtain ⟨ad, rfl, hcell⟩ := HC.out.Rw.2 i hin
            obtain ⟨x, hx0⟩ : ∃ x, l.getD i ByteArray.empty = x := ⟨_, rfl⟩
            have hd : l.drop i = x :: l.drop (i + 1) := by rw [← hx0, List.getD_eq_getElem?_getD, List.getElem?_eq_getElem hin]; exact List.drop_eq_getElem_cons hin
            rw [hx0] at hcell
            have HV1 := Aside0.mk (show scFind (s.extract F j1) (l.drop (i + 1)) (i + 1) (if x.toList == (s.extract F j1).toList then (i : Int) else fd) = V2 by have h2 := HV.out.2; rw [hd] at h2; exact h2)
            obtain ⟨b5, hb5⟩ : ∃ b, (x.toList == (s.extract F j1).toList) = b := ⟨_, rfl⟩
            clear hd hx0
            have hcx := HC.out.S.cx
            have hca := HC.out.S.ca
            have hcs := HC.out.S.cs
            have hcf := HC.out.cf
            have hcw := HC.out.cw
            have hcn := HC.out.S.cn
            have hfn := HC.out.S.fn
            have d1 : (0 : Int) ≤ (F : Int) := Int.natCast_nonneg _
            have d2 : (F : Int) ≤ (j1 : Int) := by omega
            have d3 : (0 : Int) ≤ (j1 : Int) := Int.natCast_nonneg _
            have d4 : (j1 : Int) ≤ (s.size : Int) := by omega
            cases b5 with
            | true =>
              have HV3 := Aside0.mk (show scFind (s.extract F j1) (l.drop (i + 1)) (i + 1) (i : Int) = V2 by have h2 := HV1.out; rw [if_pos hb5] at h2; exact h2)
              go_wp2_with fail
              go_quiet (fail)
              go_wp2_with fail
              go_roundg k2
              case measure => omega
              case rel => exact ⟨i + 1, (i : Int), by go_num, ⟨by omega⟩, ⟨by omega, HV3.out⟩, ⟨(HC.out.drewN nq).setN _⟩⟩
            | false =>
              have HV3 := Aside0.mk (show scFind (s.extract F j1) (l.drop (i + 1)) (i + 1) fd = V2 by have h2 := HV1.out; rw [if_neg (by rw [hb5]; simp)] at h2; exact h2)
              go_wp2_with fail
              go_quiet (fail)
              go_wp2_with fail
              go_roundg k2
              case measure => omega
              case rel => exact ⟨i + 1, fd, by go_num, ⟨by omega⟩, ⟨HV.out.1, HV3.out⟩, ⟨HC.out.drewN nq⟩⟩
    · have hfd2 : ¬ fd < 0 := by omega
      subst hR
      go_wp2_with fail
      go_end0
      exact ⟨HE.out.symm, by rw [HJ0.out.1, HJ0.out.2]; exact HC.out.S⟩
end Go.Proofs.Ytkpicinbckedoaa.Q
