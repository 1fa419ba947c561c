/- What is proved: what the condition that Word hands to must tells of a byte. -/
import Derived.Test.YtkpicinbckedoaaHScanIde
namespace Go.Proofs.Ytkpicinbckedoaa.Q
open Go.RowKit Go.Proofs.YtkpicinbckedoaaW.PrintWords Go.Proofs.YtkpicinbckedoaaW.PrintLast Go.Proofs.YtkpicinbckedoaaW.PrintMore
set_option linter.unusedVariables false
set_option linter.unusedSimpArgs false

/-- Does a word go on with c, where its first n bytes are t? -/
def wFits (t : ByteArray) (n : Nat) (c : Int) (x : ByteArray) : Bool := decide (n < x.size) && (bt x n == c && (x.extract 0 n).toList == t.toList)
/-- Words of which a scan reads, in a world. -/
def WordsAt (W : World) (A : Option Addr) (l : List ByteArray) : Prop := l.length ≤ 9223372036854775807 ∧ ∀ k : Nat, k < l.length → ∃ ad, A = some ad ∧ W.cell? (ad.add k) = some (.string (l.getD k ByteArray.empty))

set_option maxHeartbeats 4000000 in
set_option maxRecDepth 100000 in
theorem word11 (W : World) (g bw bm bx bf : Nat) (s : ByteArray) (F N J : Nat) (A : Option Addr) (cap : Nat) (l : List ByteArray) (c : Int) (hw : W.cell? ⟨bw, 0, none⟩ = some (.slice A l.length cap)) (hm : W.cell? ⟨bm, 0, none⟩ = some (.int .i64 N)) (hx : W.cell? ⟨bx, 0, none⟩ = some (.pointer (some ⟨g, 0, none⟩))) (hf : W.cell? ⟨bf, 0, none⟩ = some (.int .i64 F)) (h0 : W.cell? ⟨g, 0, none⟩ = some (.string s)) (h1 : W.cell? ⟨g, 1, none⟩ = some (.int .i64 J)) (hF : F ≤ J) (hJ : J ≤ s.size) (hr : WordsAt W A l) (hs : s.size ≤ 4611686018427387904) :
    Calls Try.prog 40 #[.int .u8 c, .pointer (some ⟨bw, 0, none⟩), .pointer (some ⟨bm, 0, none⟩), .pointer (some ⟨bx, 0, none⟩), .pointer (some ⟨bf, 0, none⟩)] W fun e W' => e = .returned (.bool (l.any (wFits (s.extract F J) N c))) ∧ ∃ m, W' = W.drewN m := by
  have HR := Aside0.mk hr.2
  have hlen := hr.1
  obtain ⟨R, hR⟩ : ∃ R, R = l.any (wFits (s.extract F J) N c) := ⟨_, rfl⟩
  rw [← hR]
  have HR0 := Aside0.mk (show (l.drop 0).any (wFits (s.extract F J) N c) = R by rw [hR]; rfl)
  have d1 : (0 : Int) ≤ (F : Int) := Int.natCast_nonneg _
  have d2 : (F : Int) ≤ (J : Int) := by omega
  have d3 : (0 : Int) ≤ (J : Int) := Int.natCast_nonneg _
  have d4 : (J : Int) ≤ (s.size : Int) := by omega
  have d5 : (0 : Int) ≤ (N : Int) := Int.natCast_nonneg _
  clear hR hr
  go_enter Try.func40, Try.ntmps40
  go_wp2_with fail
  go_loopg [11] l.length (fun kq v11 w' => ∃ (i : Nat), v11 = .int .i64 i ∧ Aside0 (i + kq = l.length) ∧ Aside0 ((l.drop i).any (wFits (s.extract F J) N c) = R) ∧ ∃ m, Aside0 (w' = W.drewN m))
  case atStart => exact ⟨0, rfl, ⟨by omega⟩, HR0, 0, ⟨rfl⟩⟩
  case round =>
    clear HR0
    obtain ⟨i, rfl, HI, HA, m, HW⟩ := hrel
    obtain rfl := HW.out
    have hi0 := HI.out
    by_cases hk : gk = 0
    · have hi : ¬ (i : Int) < (l.length : Int) := by omega
      have hR2 : R = false := by rw [← HA.out, List.drop_eq_nil_of_le (by omega)]; rfl
      subst hR2
      go_wp2_with fail
      go_ret
      exact ⟨rfl, _, rfl⟩
    · obtain ⟨k1, rfl⟩ : ∃ m, gk = m + 1 := ⟨gk - 1, by omega⟩
      have hi : (i : Int) < (l.length : Int) := by omega
      have hin : i < l.length := by omega
      obtain ⟨ad, rfl, hcell⟩ := HR.out i hin
      obtain ⟨x, hx0⟩ : ∃ x, l.getD i ByteArray.empty = x := ⟨_, rfl⟩
      have hd : l.drop i = x :: l.drop (i + 1) := by rw [← hx0, List.getD_eq_getElem?_getD, List.getElem?_eq_getElem hin]; exact List.drop_eq_getElem_cons hin
      rw [hx0] at hcell
      have HA1 := Aside0.mk (show (wFits (s.extract F J) N c x || (l.drop (i + 1)).any (wFits (s.extract F J) N c)) = R by have h2 := HA.out; rw [hd] at h2; exact h2)
      clear hd hx0 HA
      by_cases h2 : (N : Int) < (x.size : Int)
      · have h2n : N < x.size := by omega
        have h2b : decide ((N : Int) < (x.size : Int)) = true := decide_eq_true h2
        have hbt : ((x[N]'h2n).toNat : Int) = bt x N := bt_at x N h2n
        obtain ⟨y, hy⟩ : ∃ y : Int, y = ((x[N]'h2n).toNat : Int) := ⟨_, rfl⟩
        obtain ⟨b3, hb3⟩ : ∃ b, (((x[N]'h2n).toNat : Int) == c) = b := ⟨_, rfl⟩
        have HB3 := Aside0.mk (show (bt x N == c) = b3 by rw [← hbt]; exact hb3)
        clear hbt hy y
        cases b3 with
        | true =>
          obtain ⟨b4, hb4⟩ : ∃ b, ((x.extract 0 N).toList == (s.extract F J).toList) = b := ⟨_, rfl⟩
          have HB4 := Aside0.mk hb4
          cases b4 with
          | true =>
            have hR2 : R = true := by rw [← HA1.out]; simp only [wFits, HB3.out, HB4.out, decide_eq_true h2n]; rfl
            subst hR2
            go_wp2_with fail
            go_quiet (fail)
            go_wp2_with fail
            go_ret
            refine ⟨rfl, m + nq, ?_⟩
            simp
          | false =>
            have HA2 := Aside0.mk (show (l.drop (i + 1)).any (wFits (s.extract F J) N c) = R by rw [← HA1.out]; simp only [wFits, HB3.out, HB4.out, Bool.and_false, Bool.false_or])
            clear HA1
            go_wp2_with fail
            go_quiet (fail)
            go_wp2_with fail
            go_roundg k1
            case measure => omega
            case rel => exact ⟨i + 1, rfl, ⟨by omega⟩, HA2, _, ⟨rfl⟩⟩
        | false =>
          have HA2 := Aside0.mk (show (l.drop (i + 1)).any (wFits (s.extract F J) N c) = R by rw [← HA1.out]; simp only [wFits, HB3.out, Bool.false_and, Bool.and_false, Bool.false_or])
          clear HA1
          go_wp2_with fail
          go_quiet (fail)
          go_wp2_with fail
          go_roundg k1
          case measure => omega
          case rel => exact ⟨i + 1, rfl, ⟨by omega⟩, HA2, _, ⟨rfl⟩⟩
      · have h2b : decide ((N : Int) < (x.size : Int)) = false := decide_eq_false h2
        have HA2 := Aside0.mk (show (l.drop (i + 1)).any (wFits (s.extract F J) N c) = R by rw [← HA1.out]; simp only [wFits, decide_eq_false (show ¬ N < x.size by omega), Bool.false_and, Bool.false_or])
        have h2d : decide ((x.size : Int) ≤ (N : Int)) = true := decide_eq_true (by omega)
        have h2f : decide (N < x.size) = false := decide_eq_false (by omega)
        have h2e : (x.size : Int) ≤ (N : Int) := by omega
        clear HA1
        go_wp2_with fail
        go_quiet (fail)
        go_wp2_with fail
        go_roundg k1
        case measure => omega
        case rel => exact ⟨i + 1, rfl, ⟨by omega⟩, HA2, _, ⟨rfl⟩⟩

theorem WordsAt.keep {w W : World} {g : Nat} {A : Option Addr} {l : List ByteArray} (h : WordsAt w A l) (hk : ∀ k, k < w.heap.size → k ≠ g → W.heap[k]? = w.heap[k]?) (hA : ∀ ad, A = some ad → 0 < l.length → ad.block ≠ g) : WordsAt W A l :=
  ⟨h.1, fun k hl => by
    obtain ⟨ad, rfl, hc⟩ := h.2 k hl
    have hbk : (ad.add k).block = ad.block := by unfold Addr.add; split <;> rfl
    have hlt : ad.block < w.heap.size := by rw [← hbk]; exact World.block_lt_of_cell? w (ad.add k) hc
    refine ⟨ad, rfl, ?_⟩
    have hb := hk ad.block hlt (hA ad rfl (by omega))
    exact (World.cell?_of_block (a := ad.add k) (by rw [hbk]; exact hb)).trans hc⟩

/-- The condition that Word hands to must, as a function value. -/
theorem word_ok (w0 w : World) (g bw bm bx bf : Nat) (s : ByteArray) (F J : Nat) (A : Option Addr) (cap : Nat) (l : List ByteArray) (hw : w.heap[bw]? = some (.cells #[.slice A l.length cap] 28 (0, 0))) (hm : w.heap[bm]? = some (.cells #[.int .i64 ((J - F : Nat) : Int)] 3 (0, 0))) (hx : w.heap[bx]? = some (.cells #[.pointer (some ⟨g, 0, none⟩)] 41 (0, 0))) (hf : w.heap[bf]? = some (.cells #[.int .i64 (F : Int)] 3 (0, 0))) (hne : bw ≠ g ∧ bm ≠ g ∧ bx ≠ g ∧ bf ≠ g) (hF : F ≤ J) (hJ : J ≤ s.size) (hr : WordsAt w A l) (hA : ∀ ad, A = some ad → 0 < l.length → ad.block ≠ g) (hs : s.size ≤ 4611686018427387904) :
    PredOk w0 w g s (J : Int) false 40 #[.pointer (some ⟨bw, 0, none⟩), .pointer (some ⟨bm, 0, none⟩), .pointer (some ⟨bx, 0, none⟩), .pointer (some ⟨bf, 0, none⟩)] (fun c => l.any (wFits (s.extract F J) (J - F) c)) := by
  refine ⟨fun _ _ => rfl, fun W hK hI hB c _ _ => ?_⟩
  have kb : ∀ {b : Nat} {o : Obj}, w.heap[b]? = some o → b ≠ g → W.heap[b]? = some o := fun hb hg => hK.blk hb hg (by simp)
  refine (word11 W g bw bm bx bf s F (J - F) J A cap l c (blk_cell (kb hw hne.1) 0) (blk_cell (kb hm hne.2.1) 0) (blk_cell (kb hx hne.2.2.1) 0) (blk_cell (kb hf hne.2.2.2) 0) (cellS72_0 hI.1) (cellS72_1 hI.1) hF hJ (hr.keep (fun k h1 h2 => hK.2 k h1 h2 (by simp)) hA) hs).mono ?_
  rintro e W' ⟨he, m, rfl⟩
  exact ⟨he, hI.drewN m, pw_below_drewN hB m, KeepBut.refl W g none⟩
end Go.Proofs.Ytkpicinbckedoaa.Q
