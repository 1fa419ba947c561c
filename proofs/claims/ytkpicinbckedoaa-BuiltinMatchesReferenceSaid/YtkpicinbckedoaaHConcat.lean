/- What is proved: slices.Grow of nil, and slices.Concat of two lists of strings. -/
import Derived.Test.YtkpicinbckedoaaQx0
import Derived.LoopTactic
namespace Go.Proofs.Ytkpicinbckedoaa.Q
open Go.RowKit Go.Proofs.YtkpicinbckedoaaW.PrintWords Go.Proofs.YtkpicinbckedoaaW.PrintLast Go.Proofs.YtkpicinbckedoaaW.PrintMore
set_option linter.unusedVariables false
set_option linter.unusedSimpArgs false

theorem str_info_ : (Try.prog.info? 9).map (fun i => (i.zero, i.size, i.bytes)) = some (some (.string ⟨#[]⟩), 1, 16) := by kernel_rfl
theorem R_cut0 {e base : Nat} {w : World} {ok : Nat → Prop} {A : Option Addr} {n c : Nat} {l : List ByteArray} (h : Kd.R Kd.string e w base ok (.slice A n c) l) : Kd.R Kd.string e w base ok (.slice A 0 c) [] := by
  obtain ⟨h0, inner, ho, hr⟩ := h
  refine ⟨fun k hk => h0 k (by cases A <;> exact hk), [], ?_, Reps.none _ _⟩
  rcases ho.2 with ⟨hn, _⟩ | ⟨g, cap, cur, he, hg, hh, hc, hz, hx, _⟩
  · injection hn with e1 e2 e3
    subst e1 e2 e3
    exact ⟨rfl, .inl ⟨rfl, rfl⟩⟩
  · injection he with e1 e2 e3
    subst e1 e3
    exact ⟨rfl, .inr ⟨g, c, cur, rfl, hg, hh, Nat.zero_le _, hz, hx, by simp⟩⟩
set_option maxHeartbeats 4000000 in
set_option maxRecDepth 100000 in
theorem grow_any (n : Int) (h0 : 0 < n) (hn : n ≤ 1000000) (w : World) :
    Calls Try.prog 62 #[.slice none 0 0, .int .i64 n] w fun e w' => ∃ v, e = .returned v ∧ Kd.R Kd.string 9 w' w.heap.size (fun _ => True) v [] ∧ Below w.heap.size w w' := by
  have c1 : decide (n < 0) = false := decide_eq_false (by omega)
  have c2 : decide (0 < n) = true := decide_eq_true h0
  have q1 : IntKind.i64.wrap n = n := IntWalk.i64_in _ (by omega)
  have HN := Aside0.mk (And.intro h0 hn)
  clear h0 hn
  go_enter Try.func62, Try.ntmps62
  go_wp2_with (at_builtin; refine Kd.R_append_zeros Kd.string (w0 := w) w.heap.size rfl (.tmp 20) (.tmp 21) 28 3 9 (.string ⟨#[]⟩) 16 rfl Try.underlying28 Try.underlying3 str_info_ rfl (by decide) (by omega) (.slice none 0 0) [] ⟨#[]⟩ (kx := .i64) n (fun _ => True) rfl rfl rfl (fun _ _ => trivial) (Kd.R_nil _ _ _ _ _) (by have := HN.out; omega) (Below.refl _ _) (Nat.le_refl _) (by have := HN.out; simp; omega) ?_; intro v1 w1 hr hb hg hat; obtain ⟨A, c, rfl⟩ := Kd.R_slice hr; have H1 := Aside0.mk (And.intro hr hb); clear hr hb hg hat)
  go_ret
  exact ⟨_, rfl, R_cut0 H1.out.1, H1.out.2⟩
/-- Two slices, of eight and of twenty-five, in a row of the call's own. -/
structure Two_ (b : Nat) (A1 A2 : Option Addr) (l1 l2 : List ByteArray) (c1 c2 : Nat) (W : World) : Prop where
  b : ∃ cur, W.heap[b]? = some (.cells cur 28 (0, 0)) ∧ cur[0]? = some (.slice A1 8 c1) ∧ cur[1]? = some (.slice A2 25 c2)
  h1 : Kd.C Kd.string W A1 8 l1
  h2 : Kd.C Kd.string W A2 25 l2
theorem Two_.below {b : Nat} {A1 A2 : Option Addr} {l1 l2 : List ByteArray} {c1 c2 : Nat} {W W1 : World} (h : Two_ b A1 A2 l1 l2 c1 c2 W) (hb : Below W.heap.size W W1) : Two_ b A1 A2 l1 l2 c1 c2 W1 := by
  obtain ⟨⟨cur, e, e0, e1⟩, h1, h2⟩ := h
  exact ⟨⟨cur, blk_below e hb, e0, e1⟩, Kd.C_below h1 hb, Kd.C_below h2 hb⟩
theorem Two_.cells {b : Nat} {A1 A2 : Option Addr} {l1 l2 : List ByteArray} {c1 c2 : Nat} {W : World} (h : Two_ b A1 A2 l1 l2 c1 c2 W) : W.cell? ⟨b, 0, none⟩ = some (.slice A1 8 c1) ∧ W.cell? ⟨b, 1, none⟩ = some (.slice A2 25 c2) := by
  obtain ⟨⟨cur, e, e0, e1⟩, _, _⟩ := h
  exact ⟨by simp [World.cell?, e, e0], by simp [World.cell?, e, e1]⟩
def joined (k : Nat) (l1 l2 : List ByteArray) : List ByteArray := if k = 0 then [] else if k = 1 then l1 else l1 ++ l2
set_option maxHeartbeats 4000000 in
set_option maxRecDepth 100000 in
theorem concat_any (b : Nat) (A1 A2 : Option Addr) (l1 l2 : List ByteArray) (c1 c2 c : Nat) (w : World) (h : Two_ b A1 A2 l1 l2 c1 c2 w) :
    Calls Try.prog 58 #[.slice (some ⟨b, 0, none⟩) 2 c] w fun e w' => ∃ v, e = .returned v ∧ Kd.R Kd.string 9 w' w.heap.size (fun _ => True) v (l1 ++ l2) ∧ Below w.heap.size w w' := by
  have H := Aside0.mk h
  have hc := h.cells.1
  have hd := h.cells.2
  clear h
  go_enter Try.func58, Try.ntmps58
  go_wp2_with fail
  go_loop [3, 11] (fun v3 v11 => ∃ k : Nat, k ≤ 2 ∧ v11 = .int .i64 k ∧ v3 = .int .i64 (if k = 0 then 0 else if k = 1 then 8 else 33)) (fun _ v11 => 2 - (intOf v11).toNat)
  case atStart => exact ⟨0, by omega, rfl, rfl⟩
  case round =>
    obtain ⟨k, hk, rfl, rfl⟩ := hrel
    rcases (show k = 0 ∨ k = 1 ∨ k = 2 by omega) with rfl | rfl | rfl
    · go_wp2
      exact ⟨⟨1, by omega, rfl, rfl⟩, by decide⟩
    · go_wp2
      exact ⟨⟨2, by omega, rfl, rfl⟩, by decide⟩
    · have H0 := H
      go_wp2_with (go_at_call 62; refine (grow_any 33 (by decide) (by decide) _).mono ?_; rintro e w1 ⟨v1, rfl, hr, hb⟩; obtain ⟨A, cc, rfl⟩ := Kd.R_slice hr; have G := Aside0.mk (And.intro hr hb); clear hr hb)
      go_loopg [6, 27] 2 (fun kq v6 v27 w' => ∃ k : Nat, v27 = .int .i64 k ∧ Aside0 (k + kq = 2) ∧ ∃ A cc, v6 = .slice A (joined k l1 l2).length cc ∧ Aside0 (Kd.R Kd.string 9 w' w.heap.size (fun _ => True) (.slice A (joined k l1 l2).length cc) (joined k l1 l2) ∧ Below w.heap.size w w'))
      case atStart => exact ⟨0, rfl, ⟨rfl⟩, A, cc, rfl, G⟩
      case round =>
      clear G
      obtain ⟨k, rfl, HI, A, cc, rfl, HR⟩ := hrel
      rcases (show k = 0 ∨ k = 1 ∨ k = 2 by have := HI.out; omega) with rfl | rfl | rfl
      · obtain rfl : gk = 2 := by have := HI.out; omega
        have hx := (H0.out.below HR.out.2).cells.1
        go_wp2_with (at_builtin; refine Kd.R_append_rows Kd.string (w0 := w) w.heap.size rfl (.tmp 31) (.tmp 32) 28 9 (.string ⟨#[]⟩) 16 rfl Try.underlying28 str_info_ rfl (by decide) (by omega) (.slice A (joined 0 l1 l2).length cc) (joined 0 l1 l2) l1 A1 8 c1 (fun _ => True) (fun _ => False) rfl rfl HR.out.1 (H0.out.below HR.out.2).h1 (fun _ _ h => h) (fun _ h => h.elim) (fun _ _ => trivial) HR.out.2 HR.out.2.size (by have := H0.out.h1.1; simp [joined]; try omega) ?_; intro v1 w1 hr hb hg hat; obtain ⟨A', cc', rfl⟩ := Kd.R_slice hr; have H1 := Aside0.mk (And.intro hr hb); clear hr hb hg hat)
        go_roundg 1
        case measure => omega
        case rel => exact ⟨1, rfl, ⟨rfl⟩, A', cc', by simp [joined], by simpa [joined] using H1⟩
      · obtain rfl : gk = 1 := by have := HI.out; omega
        have hx := (H0.out.below HR.out.2).cells.2
        go_wp2_with (at_builtin; refine Kd.R_append_rows Kd.string (w0 := w) w.heap.size rfl (.tmp 31) (.tmp 32) 28 9 (.string ⟨#[]⟩) 16 rfl Try.underlying28 str_info_ rfl (by decide) (by omega) (.slice A (joined 1 l1 l2).length cc) (joined 1 l1 l2) l2 A2 25 c2 (fun _ => True) (fun _ => False) rfl rfl HR.out.1 (H0.out.below HR.out.2).h2 (fun _ _ h => h) (fun _ h => h.elim) (fun _ _ => trivial) HR.out.2 HR.out.2.size (by have := H0.out.h1.1; simp [joined]; try omega) ?_; intro v1 w1 hr hb hg hat; obtain ⟨A', cc', rfl⟩ := Kd.R_slice hr; have H1 := Aside0.mk (And.intro hr hb); clear hr hb hg hat)
        go_roundg 0
        case measure => omega
        case rel => exact ⟨2, rfl, ⟨rfl⟩, A', cc', by simp [joined], by simpa [joined] using H1⟩
      · go_wp2
        go_ret
        exact ⟨_, rfl, HR.out⟩
end Go.Proofs.Ytkpicinbckedoaa.Q
