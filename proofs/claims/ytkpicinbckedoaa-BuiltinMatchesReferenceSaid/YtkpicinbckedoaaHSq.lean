/- Short words for the printed texts: one lemma for what the print writes out many times. No condition. -/
import Derived.Test.YtkpicinbckedoaaWLast
import Derived.Test.YtkpicinbckedoaaWTab
import Derived.Test.YtkpicinbckedoaaWMore
import Derived.Test.YtkpicinbckedoaaWWords
namespace Go.Proofs.Ytkpicinbckedoaa.Q
open Go.RowKit Go.Proofs.YtkpicinbckedoaaW.PrintWords Go.Proofs.YtkpicinbckedoaaW.PrintLast Go.Proofs.YtkpicinbckedoaaW.PrintMore
set_option linter.unusedVariables false

theorem bs_ {α β : Type} {x : Option α} {f : α → Option β} {b : β} (h : x.bind f = some b) : ∃ a, Aside0 (x = some a) ∧ f a = some b := by
  obtain ⟨a, h1, h2⟩ := Option.bind_eq_some_iff.mp h
  exact ⟨a, ⟨h1⟩, h2⟩
theorem it_ {α : Type} {a b c : α} {d : Decidable (true = true)} (h : @ite _ (true = true) d a b = c) : a = c := by
  rw [if_pos rfl] at h; exact h
theorem if_ {α : Type} {a b c : α} {d : Decidable (false = true)} (h : @ite _ (false = true) d a b = c) : b = c := by
  rw [if_neg Bool.false_ne_true] at h; exact h
section
variable {w : World} {g : Nat} {t : TypeId}
theorem cz2_ {a b : Value} (h : w.heap[g]? = some (.cells #[a, b] t (0, 0))) : w.cell? ⟨g, 0, none⟩ = some a ∧ w.cell? ⟨g, 1, none⟩ = some b :=
  ⟨(blk_cell h 0).trans rfl, (blk_cell h 1).trans rfl⟩
theorem cz3_ {a b c : Value} (h : w.heap[g]? = some (.cells #[a, b, c] t (0, 0))) : w.cell? ⟨g, 0, none⟩ = some a ∧ w.cell? ⟨g, 1, none⟩ = some b ∧ w.cell? ⟨g, 2, none⟩ = some c :=
  ⟨(blk_cell h 0).trans rfl, (blk_cell h 1).trans rfl, (blk_cell h 2).trans rfl⟩
theorem cz4_ {a b c d : Value} (h : w.heap[g]? = some (.cells #[a, b, c, d] t (0, 0))) : w.cell? ⟨g, 0, none⟩ = some a ∧ w.cell? ⟨g, 1, none⟩ = some b ∧ w.cell? ⟨g, 2, none⟩ = some c ∧ w.cell? ⟨g, 3, none⟩ = some d :=
  ⟨(blk_cell h 0).trans rfl, (blk_cell h 1).trans rfl, (blk_cell h 2).trans rfl, (blk_cell h 3).trans rfl⟩
theorem cz6_ {a b c d e f : Value} (h : w.heap[g]? = some (.cells #[a, b, c, d, e, f] t (0, 0))) : w.cell? ⟨g, 0, none⟩ = some a ∧ w.cell? ⟨g, 1, none⟩ = some b ∧ w.cell? ⟨g, 2, none⟩ = some c ∧ w.cell? ⟨g, 3, none⟩ = some d ∧ w.cell? ⟨g, 4, none⟩ = some e ∧ w.cell? ⟨g, 5, none⟩ = some f :=
  ⟨(blk_cell h 0).trans rfl, (blk_cell h 1).trans rfl, (blk_cell h 2).trans rfl, (blk_cell h 3).trans rfl, (blk_cell h 4).trans rfl, (blk_cell h 5).trans rfl⟩
theorem cz7_ {a b c d e f i : Value} (h : w.heap[g]? = some (.cells #[a, b, c, d, e, f, i] t (0, 0))) : w.cell? ⟨g, 0, none⟩ = some a ∧ w.cell? ⟨g, 1, none⟩ = some b ∧ w.cell? ⟨g, 2, none⟩ = some c ∧ w.cell? ⟨g, 3, none⟩ = some d ∧ w.cell? ⟨g, 4, none⟩ = some e ∧ w.cell? ⟨g, 5, none⟩ = some f ∧ w.cell? ⟨g, 6, none⟩ = some i :=
  ⟨(blk_cell h 0).trans rfl, (blk_cell h 1).trans rfl, (blk_cell h 2).trans rfl, (blk_cell h 3).trans rfl, (blk_cell h 4).trans rfl, (blk_cell h 5).trans rfl, (blk_cell h 6).trans rfl⟩
end
section
variable {w : World} {g : Nat} {t : TypeId} {cs : Array Value}
theorem fz2_ (h : w.heap[g]? = some (.cells cs t (0, 0))) : w.frozen? ⟨g, 0, none⟩ = false ∧ w.frozen? ⟨g, 1, none⟩ = false := ⟨blk_frozen h 0, blk_frozen h 1⟩
theorem fz3_ (h : w.heap[g]? = some (.cells cs t (0, 0))) : w.frozen? ⟨g, 0, none⟩ = false ∧ w.frozen? ⟨g, 1, none⟩ = false ∧ w.frozen? ⟨g, 2, none⟩ = false := ⟨blk_frozen h 0, blk_frozen h 1, blk_frozen h 2⟩
theorem fz4_ (h : w.heap[g]? = some (.cells cs t (0, 0))) : w.frozen? ⟨g, 0, none⟩ = false ∧ w.frozen? ⟨g, 1, none⟩ = false ∧ w.frozen? ⟨g, 2, none⟩ = false ∧ w.frozen? ⟨g, 3, none⟩ = false := ⟨blk_frozen h 0, blk_frozen h 1, blk_frozen h 2, blk_frozen h 3⟩
theorem fz6_ (h : w.heap[g]? = some (.cells cs t (0, 0))) : w.frozen? ⟨g, 0, none⟩ = false ∧ w.frozen? ⟨g, 1, none⟩ = false ∧ w.frozen? ⟨g, 2, none⟩ = false ∧ w.frozen? ⟨g, 3, none⟩ = false ∧ w.frozen? ⟨g, 4, none⟩ = false ∧ w.frozen? ⟨g, 5, none⟩ = false := ⟨blk_frozen h 0, blk_frozen h 1, blk_frozen h 2, blk_frozen h 3, blk_frozen h 4, blk_frozen h 5⟩
theorem fz7_ (h : w.heap[g]? = some (.cells cs t (0, 0))) : w.frozen? ⟨g, 0, none⟩ = false ∧ w.frozen? ⟨g, 1, none⟩ = false ∧ w.frozen? ⟨g, 2, none⟩ = false ∧ w.frozen? ⟨g, 3, none⟩ = false ∧ w.frozen? ⟨g, 4, none⟩ = false ∧ w.frozen? ⟨g, 5, none⟩ = false ∧ w.frozen? ⟨g, 6, none⟩ = false := ⟨blk_frozen h 0, blk_frozen h 1, blk_frozen h 2, blk_frozen h 3, blk_frozen h 4, blk_frozen h 5, blk_frozen h 6⟩
theorem cm_ {w0 : World} {n : Nat} {p : Addr} {v : Value} (h : Below n w0 w) (hc : w0.cell? p = some v) (hn : n = w0.heap.size := by rfl) : w.cell? p = some v := by
  subst hn; exact (h.cell (World.block_lt_of_cell? w0 _ hc)).trans hc
end
/-- Flags, out of a number's bits. -/
abbrev bf_ (n m : Nat) : Array Bool := ((List.range n).map fun i => m.testBit i).toArray
theorem sA_ {α : Type} (l : List α) (i : Nat) (a : α) : l.toArray.setIfInBounds i a = (l.set i a).toArray := List.setIfInBounds_toArray l i a
theorem sZ_ {α : Type} {x : α} {xs : List α} {a : α} : (x :: xs).set 0 a = a :: xs := rfl
theorem sS_ {α : Type} {x : α} {xs : List α} {i : Nat} {a : α} : (x :: xs).set (i + 1) a = x :: xs.set i a := rfl
/-- Small facts that the walk wants. -/
theorem rs_ {p : Prop} (h : p := by first | rfl | (simp; done) | (simp [*]; done)) : p := h
theorem as_ {p : Prop} (h : p := by first | (with_reducible assumption) | assumption) : p := h
theorem nl_ {p : Prop} (h : p := by first | exact Kd.R_nil _ _ _ _ _ | exact Kd.N_nil _ _ _ _ _ | exact Kd.V_nil _ _ _ _ _ | exact Kd.Q_nil _ _ _ _ _ | exact Kd.S_nil _ _ _ _ _) : p := h
/-- A block, a row: after steps that leave all old blocks. -/
theorem bk_ {w w1 : World} {g : Nat} {o : Obj} (h : w.heap[g]? = some o) (hb : Below w.heap.size w w1 := by with_reducible repeat (first | exact Below.refl _ _ | apply below_alloc | apply pw_below_drewN | apply below_drew1)) : w1.heap[g]? = some o := blk_below h hb
theorem bp_ {w w1 : World} {g : Nat} {o : Obj} (h : w.heap[g]? = some o) (hb : Below w.heap.size w w1 := by with_reducible repeat (first | apply below_alloc | apply pw_below_drewN | apply below_drew1 | exact Below.refl _ _)) : w1.heap[g]? = some o := blk_below h hb
theorem rk_ {α : Type} {d : Kd α} {e : TypeId} {w w1 : World} {base : Nat} {ok : Nat → Prop} {v : Value} {xs : List α} (h : d.R e w base ok v xs)
    (hb : Below w.heap.size w w1 := by with_reducible repeat (first | exact Below.refl _ _ | apply below_alloc | apply pw_below_drewN | apply below_drew1)) : d.R e w1 base ok v xs := Kd.R_below h hb
/-- Below, from the one that is kept aside. -/
theorem bh_ {n : Nat} {w W : World} (h : Below n w W := by repeat (first | (with_reducible first | exact HB.out | apply below_alloc | apply pw_below_drewN | apply below_drew1 | refine below_set ?_ (Aside0.out (by assumption))) | exact HB.out)) : Below n w W := h
theorem bt_ {w W w2 : World} (k : Below W.heap.size W w2) (h : Below w.heap.size w W := by repeat (first | (with_reducible first | exact HB.out | apply below_alloc | apply pw_below_drewN | apply below_drew1 | refine below_set ?_ (Aside0.out (by assumption))) | exact HB.out)) : Aside0 (Below w.heap.size w w2) := ⟨below_step h k⟩
theorem bz_ {w W : World} (h : Below w.heap.size w W := by repeat (first | (with_reducible first | exact HB.out | apply below_alloc | apply pw_below_drewN | apply below_drew1 | refine below_set ?_ (Aside0.out (by assumption))) | exact HB.out)) : w.heap.size ≤ W.heap.size := below_size h
theorem rt_ {p : Prop} {n : Nat} {w W : World} (h : p := by first | rfl | (simp [errW_none, errW_some] <;> rfl) | (simp [*, errW_none, errW_some] <;> rfl)) (hb : Below n w W := by repeat (first | (with_reducible first | exact HB.out | apply below_alloc | apply pw_below_drewN | apply below_drew1 | refine below_set ?_ (Aside0.out (by assumption))) | exact HB.out)) : p ∧ Below n w W := ⟨h, hb⟩
theorem gl_ {P : Program} {ops : Array Oper} {Q : Exit → Act → World → Prop} {rest : List Oper} {oi : Oper} {a : Act} {w : World} (N : Option Tmp) {f : FuncId} {fn : Func} {as : Array Operand} {ts : Array TypeId} (hf : P.funcs[f]? = some fn) (args : Array Value)
    (h : Calls P f args w fun e w' => ∃ v, e = .returned v ∧ wpList P ops Q rest (a.put N v) w')
    (hd : oi.dst = N := by rfl) (hg : oi.guard = none := by rfl) (hname : (fn.name == "runtime.NumGoroutine") = false := by kernel_rfl) (hb : fn.body.isSome = true := by rfl)
    (hop : oi.op = .call { callee := .value (.func f), args := as, argTypes := ts } := by rfl)
    (hargs : as.map a.eval = args := by (try simp only [List.map_toArray, List.map_cons, List.map_nil]); first | done | rfl | (simp only [List.length_drop, List.length_take]; rfl)) : wpList P ops Q (oi :: rest) a w :=
  goesL_ N hd hg hf hname hb args hop hargs h
theorem bx_ {P : Program} {ops : Array Oper} {rest : List Oper} {o : Oper} {a : Act} {Q : Exit → Act → World → Prop} {w W : World} {N : Tmp} {cs : Array Value} {t : TypeId}
    (h : ∀ g, ∀ w1, Aside0 (w1.heap[g]? = some (.cells cs t (0, 0))) → Aside0 (Below w.heap.size w w1) → Aside0 (w.heap.size ≤ g) → Aside0 (w.heap.size ≤ g) → wpList P ops Q rest (a.put o.dst (.pointer (some ⟨g, 0, none⟩))) w1)
    (hb : Below w.heap.size w W := by repeat (first | (with_reducible first | exact HB.out | apply below_alloc | apply pw_below_drewN | apply below_drew1 | refine below_set ?_ (Aside0.out (by assumption))) | exact HB.out))
    (hgd : o.guard = none := by rfl) (_hd : o.dst = some N := by rfl)
    (hrun : (execOp a.eval o).run P W = .ok (.value (.pointer (some ⟨W.heap.size, 0, none⟩))) (W.alloc (.cells cs t (0, 0))) := by first | (go_simp; done) | (go_simp; rfl)) :
    wpList P ops Q (o :: rest) a W :=
  box_event hgd _hd hrun fun g hg w1 h1 h2 => h g w1 ⟨h1⟩ ⟨below_step hb h2⟩ ⟨hg ▸ below_size hb⟩ ⟨hg ▸ below_size hb⟩
theorem be_ {P : Program} {ops : Array Oper} {rest : List Oper} {o : Oper} {a : Act} {Q : Exit → Act → World → Prop} {W : World} {N : Tmp} {cs : Array Value} {t : TypeId}
    (h : ∀ g, g = W.heap.size → ∀ w1, w1.heap[g]? = some (.cells cs t (0, 0)) → Below W.heap.size W w1 → wpList P ops Q rest (a.put o.dst (.pointer (some ⟨g, 0, none⟩))) w1)
    (hgd : o.guard = none := by rfl) (_hd : o.dst = some N := by rfl)
    (hrun : (execOp a.eval o).run P W = .ok (.value (.pointer (some ⟨W.heap.size, 0, none⟩))) (W.alloc (.cells cs t (0, 0))) := by first | (go_simp; done) | (go_simp; rfl)) :
    wpList P ops Q (o :: rest) a W := box_event hgd _hd hrun h
section
variable {P : Program} {md : Region.Mode} {ops : Array Oper} {Q : Exit → Act → World → Prop} {S : World → Prop} {ds : List Nat} {T : Bool × List (List Nat × List Nat)} {B : List Nat} {v : Value} {oi : Oper} {fuel : Nat} {l : Array Bool} {a a' : Act} {w : World}
theorem pu_ (i : Nat) (N : Option Tmp) (l' : Array Bool) (hT : rtab md ops = T) (h : wpAnyLast P md ops Q S ds fuel l' a' w) (hi : ops[i]? = some oi := by rfl) (hN : oi.dst = N := by rfl) (hc : anyT T l.toList l'.toList i = true := by kernel_rfl)
    (hQ : ∀ c a w, Q (.panic c) (a.put oi.dst v) w → Q (.panic c) a w := by exact fun _ _ _ h => h) (hg : Region.wanted oi (yielded ops a.tmps) = true := by rfl) (hy : ∀ w, (execOp a.eval oi).run P w = .ok (.value v) w := by intro w'; go_simp; with_reducible rfl)
    (ha : a.put N v = a' := by simp only [Act.put, sA_, sZ_, sS_, i64_w, i32_w]; rfl) : wpAnyLast P md ops Q S ds (fuel + 1) l a w := pure_ l' hi hN (any_of hT hc) hQ (Or.inl ⟨hg, hy⟩) ha h
theorem ta_ (i : Nat) (N : Option Tmp) (l' : Array Bool) (hT : rtab md ops = T) (hW : waitsOk T.2 B = true) (hS : S w) (h : wpAnyLast P md ops Q S ds fuel l' a' w) (hi : ops[i]? = some oi := by rfl) (hN : oi.dst = N := by rfl) (hc : takeW T B ds l.toList l'.toList i = true := by kernel_rfl)
    (hQ : ∀ c a w, Q (.panic c) (a.put oi.dst v) w → Q (.panic c) a w := by exact fun _ _ _ h => h) (hg : Region.wanted oi (yielded ops a.tmps) = true := by rfl) (hy : ∀ w, S w → (execOp a.eval oi).run P w = .ok (.value v) w := by intro w' hS_; (try dsimp only at hS_); go_simp; with_reducible rfl)
    (ha : a.put N v = a' := by simp only [Act.put, sA_, sZ_, sS_, i64_w, i32_w]; rfl) : wpAnyLast P md ops Q S ds (fuel + 1) l a w := take_ l' hi hN (take_ofW hT hW hc) hQ (Or.inl ⟨hg, hy⟩) hS ha h
end
theorem ck_ {α : Type} {d : Kd α} {w w1 : World} {A : Option Addr} {n : Nat} {xs : List α} (h : d.C w A n xs) (hb : Below w.heap.size w w1 := by with_reducible repeat (first | exact Below.refl _ _ | apply below_alloc | apply pw_below_drewN | apply below_drew1)) : d.C w1 A n xs := Kd.C_below h hb
theorem gs_ {P : Program} {ops : Array Oper} {Q : Exit → Act → World → Prop} {oi : Oper} {N : Option Tmp} {a : Act} {w : World} {K : Act → World → Prop} {f : FuncId} {fn : Func} {as : Array Operand} {ts : Array TypeId} (hf : P.funcs[f]? = some fn) (args : Array Value)
    (h : Calls P f args w fun e w' => ∃ v, e = .returned v ∧ K (a.put N v) w') (hname : (fn.name == "runtime.NumGoroutine") = false := by kernel_rfl) (hb : fn.body.isSome = true := by rfl)
    (hw : Region.wanted oi (yielded ops a.tmps) = true := by rfl) (hN : oi.dst = N := by rfl) (hop : oi.op = .call { callee := .value (.func f), args := as, argTypes := ts } := by rfl)
    (hargs : as.map a.eval = args := by (try simp only [List.map_toArray, List.map_cons, List.map_nil]); first | done | rfl | (simp only [List.length_drop, List.length_take]; rfl)) : if Region.wanted oi (yielded ops a.tmps) = true then Oper.wp P oi a w K Q else K (a.put N undef) w :=
  goes_ hf hname hb args hw hN hop hargs h
theorem cf_ {W : World} {q : Addr} {x : Value} (g j : Nat) (u : Value) (h : W.cell? q = some x) (hne : q.block ≠ g := by first | (rw [add_block]; assumption) | (show (Addr.add _ _).block ≠ _; rw [add_block]; assumption) | assumption) : (W.setCell ⟨g, j, none⟩ u).cell? q = some x := (cell_far (p := ⟨g, j, none⟩) hne u).trans h
theorem gw_ {w W : World} {g : Nat} (hg : g = W.heap.size) (h : Below w.heap.size w W := by repeat (first | (with_reducible first | exact HB.out | apply below_alloc | apply pw_below_drewN | apply below_drew1 | refine below_set ?_ (Aside0.out (by assumption))) | exact HB.out)) : Aside0 (w.heap.size ≤ g) := ⟨hg ▸ below_size h⟩
section
variable {w w1 w2 : World} {b g : Nat} {o : Obj}
theorem ne_ (hg : g = w1.heap.size) (h : Aside0 (w.heap[b]? = some o)) (hb : Below w.heap.size w w1 := by with_reducible repeat (first | exact Below.refl _ _ | apply below_alloc | apply pw_below_drewN | apply below_drew1)) : Aside0 (b ≠ g) := ⟨hg ▸ Nat.ne_of_lt (blk_lt (bk_ h.out hb))⟩
theorem nf_ (hg : g = w1.heap.size) (h : Aside0 (w.heap[b]? = some o)) (hb : Below w.heap.size w w1 := by with_reducible repeat (first | exact Below.refl _ _ | apply below_alloc | apply pw_below_drewN | apply below_drew1)) : Aside0 (g ≠ b) := ⟨hg ▸ Nat.ne_of_gt (blk_lt (bk_ h.out hb))⟩
theorem bw_ (h : Aside0 (w.heap[b]? = some o)) (h2 : Below w1.heap.size w1 w2) (hb : Below w.heap.size w w1 := by with_reducible repeat (first | exact Below.refl _ _ | apply below_alloc | apply pw_below_drewN | apply below_drew1)) : Aside0 (w2.heap[b]? = some o) := ⟨blk_below (bk_ h.out hb) h2⟩
theorem rw_ {α : Type} {d : Kd α} {e : TypeId} {base : Nat} {ok : Nat → Prop} {v : Value} {xs : List α} (h : Aside0 (d.R e w base ok v xs)) (h2 : Below w1.heap.size w1 w2)
    (hb : Below w.heap.size w w1 := by with_reducible repeat (first | exact Below.refl _ _ | apply below_alloc | apply pw_below_drewN | apply below_drew1)) : Aside0 (d.R e w2 base ok v xs) := ⟨Kd.R_below (rk_ h.out hb) h2⟩
end
theorem lr_ {α : Type} (a : Option α) : LeO a a := LeO.refl a
theorem ln_ {α : Type} (a : Option α) : LeO none a := LeO.none a
theorem li_ {α : Type} {c : Prop} [Decidable c] {a b a2 b2 : Option α} (h1 : LeO a a2) (h2 : LeO b b2) : LeO (if c then a else b) (if c then a2 else b2) := LeO.ite h1 h2
theorem lb_ {α β : Type} {x x2 : Option α} {f f2 : α → Option β} (h : LeO x x2) (hf : ∀ y, LeO (f y) (f2 y)) : LeO (x.bind f) (x2.bind f2) := LeO.bind h hf
theorem am_ {p : Prop} (h : p) : Aside0 p := ⟨h⟩
/-- Only block g, and new blocks, have turned. -/
def Kg_ (g : Nat) (w w1 : World) : Prop := w.heap.size ≤ w1.heap.size ∧ ∀ k, k < w.heap.size → k ≠ g → w1.heap[k]? = w.heap[k]?
theorem Kg_.refl (g : Nat) (w : World) : Kg_ g w w := ⟨Nat.le_refl _, fun _ _ _ => rfl⟩
theorem Kg_.below {g : Nat} {w w1 w2 : World} (h : Kg_ g w w1) (hb : Below w1.heap.size w1 w2) : Kg_ g w w2 := ⟨Nat.le_trans h.1 hb.size, fun k hk hn => (hb.block k (Nat.lt_of_lt_of_le hk h.1)).trans (h.2 k hk hn)⟩
theorem Kg_.alloc {g : Nat} {w w1 : World} (h : Kg_ g w w1) (o : Obj) : Kg_ g w (w1.alloc o) := h.below (below_alloc (Below.refl _ _) o)
theorem Kg_.drewN {g : Nat} {w w1 : World} (h : Kg_ g w w1) (n : Nat) : Kg_ g w (w1.drewN n) := h.below (pw_below_drewN (Below.refl _ _) n)
theorem Kg_.drew {g : Nat} {w w1 : World} (h : Kg_ g w w1) : Kg_ g w w1.drew := h.below (below_drew1 (Below.refl _ _))
theorem Kg_.set {g : Nat} {w w1 : World} (h : Kg_ g w w1) (j : Nat) (u : Value) : Kg_ g w (w1.setCell ⟨g, j, none⟩ u) := ⟨by rw [World.size_setCell]; exact h.1, fun k hk hn => (Below.heap_setCell w1 _ u k hn).trans (h.2 k hk hn)⟩
section
variable {w w1 : World} {g : Nat} {t : TypeId} {cs : Array Value}
theorem fa_ {α : Type} {d : Kd α} {e : TypeId} {base : Nat} {ok ok' : Nat → Prop} {v : Value} {xs : List α} (h : Aside0 (d.R e w base ok v xs)) (b : Aside0 (w.heap[g]? = some (.cells cs t (0, 0)))) (ht : ∀ q, q ∈ e :: d.E → q ≠ t := by decide)
    (hk : Kg_ g w w1 := by with_reducible repeat (first | exact Kg_.refl _ _ | apply Kg_.set | apply Kg_.alloc | apply Kg_.drewN | apply Kg_.drew)) (hok : ∀ k, ok k ∧ k ≠ g → ok' k := by intro _ hk; first | exact hk.1 | exact trivial | (simp only [ne_eq] at hk ⊢; simp [hk]; done)) : d.R e w1 base ok' v xs :=
  Kd.R_mono (Kd.R_step (Kd.R_types h.out b.out ht) (fun k hk1 hk2 => hk.2 k hk2 hk1.2)) hok
theorem bf1_ {b : Nat} {o : Obj} (hn : Aside0 (b ≠ g)) (h : Aside0 (w.heap[b]? = some o)) (hk : Kg_ g w w1 := by with_reducible repeat (first | exact Kg_.refl _ _ | apply Kg_.set | apply Kg_.alloc | apply Kg_.drewN | apply Kg_.drew)) : w1.heap[b]? = some o := (hk.2 b (blk_lt h.out) hn.out).trans h.out
end
theorem bv_ {α β : Type} {x : α} {f : α → Option β} {b : β} (h : (some x).bind f = some b) : ∃ y, y = x ∧ f y = some b := ⟨x, rfl, h⟩
end Go.Proofs.Ytkpicinbckedoaa.Q
