/- What is proved: calls of the scanner's methods in a world that holds two scanners. -/
import Derived.Test.YtkpicinbckedoaaHWord
namespace Go.Proofs.Ytkpicinbckedoaa.Q
open Go.RowKit Go.Proofs.YtkpicinbckedoaaW.PrintWords Go.Proofs.YtkpicinbckedoaaW.PrintLast Go.Proofs.YtkpicinbckedoaaW.PrintMore
set_option linter.unusedVariables false
set_option linter.unusedSimpArgs false

theorem strings_C {W : World} {b : Nat} {cs : Array Value} {xs : List ByteArray} (h : W.heap[b]? = some (.cells cs 9 (0, 0))) (hl : xs.length ≤ 9223372036854775807) (hc : ∀ j, j < xs.length → cs[j]? = some (.string (xs.getD j ByteArray.empty))) : Kd.string.C W (some ⟨b, 0, none⟩) xs.length xs :=
  Kd.C_of_reads (d := ByteArray.empty) ⟨rfl, hl, fun _ => ⟨_, rfl, fun j hj => by
    have h2 := (blk_cell h j).trans (hc j hj)
    have e : (Addr.add ⟨b, 0, none⟩ j) = ⟨b, j, none⟩ := by
      unfold Addr.add
      split
      · rename_i h0; subst h0; rfl
      · simp
    rw [e]
    exact h2⟩⟩

/-- Two scanners, both new to w. -/
structure Two (w W : World) (gx gy : Nat) (sx : ByteArray) (ix : Int) (bx : Bool) (sy : ByteArray) (iy : Int) (by_ : Bool) : Prop where
  X : IsS72 w W gx sx ix bx
  Y : IsS72 w W gy sy iy by_
  B : Below w.heap.size w W
  N : gx ≠ gy

section
variable {w W : World} {gx gy : Nat} {sx : ByteArray} {ix : Int} {bx : Bool} {sy : ByteArray} {iy : Int} {by_ : Bool}
theorem Two.swap (h : Two w W gx gy sx ix bx sy iy by_) : Two w W gy gx sy iy by_ sx ix bx := ⟨h.Y, h.X, h.B, fun e => h.N e.symm⟩
theorem Two.alloc (h : Two w W gx gy sx ix bx sy iy by_) (o : Obj) : Two w (W.alloc o) gx gy sx ix bx sy iy by_ := ⟨h.X.alloc o, h.Y.alloc o, h.B.alloc h.B.size o, h.N⟩
theorem Two.drewN (h : Two w W gx gy sx ix bx sy iy by_) (n : Nat) : Two w (W.drewN n) gx gy sx ix bx sy iy by_ := ⟨h.X.drewN n, h.Y.drewN n, pw_below_drewN h.B n, h.N⟩
theorem Two.below {W' : World} (h : Two w W gx gy sx ix bx sy iy by_) (hb : Below W.heap.size W W') : Two w W' gx gy sx ix bx sy iy by_ := ⟨h.X.below hb, h.Y.below hb, below_weaken h.B h.B.size hb, h.N⟩
theorem Two.turn {W' : World} {ix' : Int} {sx' : ByteArray} {bx' : Bool} (h : Two w W gx gy sx ix bx sy iy by_) (hI : IsS72 w W' gx sx' ix' bx') (hB : Below w.heap.size w W') (hK : KeepBut W W' gx none) : Two w W' gx gy sx' ix' bx' sy iy by_ :=
  ⟨hI, ⟨hK.blk h.Y.1 (fun e => h.N e.symm) (by simp), h.Y.2⟩, hB, h.N⟩
theorem Two.made (w : World) (sx sy : ByteArray) : Two w ((w.alloc (.cells #[.string sx, .int .i64 0, .bool false] 72)).alloc (.cells #[.string sy, .int .i64 0, .bool false] 72)) w.heap.size (w.heap.size + 1) sx 0 false sy 0 false := by
  have h1 := IsS72.new w w sx 0 false (Below.refl _ _)
  have hb1 : Below w.heap.size w (w.alloc (.cells #[.string sx, .int .i64 0, .bool false] 72)) := (Below.refl _ w).alloc (Nat.le_refl _) _
  have h2 := IsS72.new w (w.alloc (.cells #[.string sx, .int .i64 0, .bool false] 72)) sy 0 false hb1
  rw [World.size_alloc] at h2
  exact ⟨h1.alloc _, h2, hb1.alloc (by rw [World.size_alloc]; omega) _, by omega⟩

theorem Two.word {A1 : Option Addr} {c1 : Nat} {l1 : List ByteArray} {r1 : Int} {r2 : ByteArray} {r3 : Int} {r4 : Bool} (h : Two w W gx gy sx ix bx sy iy by_) (hr1 : Kd.string.C W A1 l1.length l1) (hc1 : l1.length ≤ c1) (hf1 : ∀ ad, A1 = some ad → 0 < l1.length → ad.block ≠ gx) (hf : linescan_Scanner_Word.f sx ix bx l1 = some (r1, r2, r3, r4)) :
    Calls Try.prog 14 #[.pointer (some ⟨gx, 0, none⟩), .slice A1 l1.length c1] W fun e w' => e = .returned (.int .i64 r1) ∧ Two w w' gx gy r2 r3 r4 sy iy by_ :=
  (linescan_Scanner_Word.calls gx sx ix bx A1 c1 l1 r1 r2 r3 r4 w W h.X h.B hr1 hc1 hf1 hf).mono fun e w' ⟨he, hI, hB, hK⟩ => ⟨he, h.turn hI hB hK⟩
theorem Two.number {r1 : Int} {r2 : ByteArray} {r3 : Int} {r4 : Bool} (h : Two w W gx gy sx ix bx sy iy by_) (hf : linescan_Scanner_Number.f sx ix bx = some (r1, r2, r3, r4)) :
    Calls Try.prog 17 #[.pointer (some ⟨gx, 0, none⟩)] W fun e w' => e = .returned (.int .i64 r1) ∧ Two w w' gx gy r2 r3 r4 sy iy by_ :=
  (linescan_Scanner_Number.calls gx sx ix bx r1 r2 r3 r4 w W h.X h.B hf).mono fun e w' ⟨he, hI, hB, hK⟩ => ⟨he, h.turn hI hB hK⟩
theorem Two.ident {r1 : ByteArray} {r2 : ByteArray} {r3 : Int} {r4 : Bool} (h : Two w W gx gy sx ix bx sy iy by_) (hf : linescan_Scanner_Identifier.f sx ix bx = some (r1, r2, r3, r4)) :
    Calls Try.prog 19 #[.pointer (some ⟨gx, 0, none⟩)] W fun e w' => e = .returned (.string r1) ∧ Two w w' gx gy r2 r3 r4 sy iy by_ :=
  (linescan_Scanner_Identifier.calls gx sx ix bx r1 r2 r3 r4 w W h.X h.B hf).mono fun e w' ⟨he, hI, hB, hK⟩ => ⟨he, h.turn hI hB hK⟩
theorem Two.end_ {r2 : ByteArray} {r3 : Int} {r4 : Bool} (h : Two w W gx gy sx ix bx sy iy by_) (hf : linescan_Scanner_End.f sx ix bx = some (r2, r3, r4)) :
    Calls Try.prog 22 #[.pointer (some ⟨gx, 0, none⟩)] W fun e w' => e = .returned (.tuple #[]) ∧ Two w w' gx gy r2 r3 r4 sy iy by_ :=
  (linescan_Scanner_End.calls gx sx ix bx r2 r3 r4 w W h.X h.B hf).mono fun e w' ⟨he, hI, hB, hK⟩ => ⟨he, h.turn hI hB hK⟩
theorem Two.err (h : Two w W gx gy sx ix bx sy iy by_) :
    Calls Try.prog 25 #[.pointer (some ⟨gx, 0, none⟩)] W fun e w' => e = .returned (.int .i64 (if bx then 6 else 0)) ∧ w' = W := err_any W gx bx (cellS72_2 h.X.1)
theorem Two.offset (h : Two w W gx gy sx ix bx sy iy by_) :
    Calls Try.prog 24 #[.pointer (some ⟨gx, 0, none⟩)] W fun e w' => e = .returned (.int .i64 ix) ∧ w' = W := offset_any W gx ix (cellS72_1 h.X.1)
/-- Word with words that the caller has just written down. -/
theorem Two.words {l1 : List ByteArray} {cs : Array Value} {n : Nat} {r1 : Int} {r2 : ByteArray} {r3 : Int} {r4 : Bool} (h : Two w W gx gy sx ix bx sy iy by_) (hn : l1.length = n) (hl : n ≤ 9223372036854775807) (hcs : (l1.map Value.string).toArray = cs) (hf : linescan_Scanner_Word.f sx ix bx l1 = some (r1, r2, r3, r4)) :
    Calls Try.prog 14 #[.pointer (some ⟨gx, 0, none⟩), .slice (some ⟨W.heap.size, 0, none⟩) n n] (W.alloc (.cells cs 9)) fun e w' => e = .returned (.int .i64 r1) ∧ Two w w' gx gy r2 r3 r4 sy iy by_ := by
  subst hn
  subst hcs
  exact (h.alloc _).word (strings_C (blk_new W _) hl (fun j hj => by simp [List.getElem?_eq_getElem hj, List.getD])) (Nat.le_refl _) (fun ad e _ => by have h1 := blk_lt h.X.1; obtain rfl := Option.some.inj e; exact Nat.ne_of_gt h1) hf
end
end Go.Proofs.Ytkpicinbckedoaa.Q
