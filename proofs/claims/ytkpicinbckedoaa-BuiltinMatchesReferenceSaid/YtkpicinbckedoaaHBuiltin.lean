/- What is proved: calls of builtin's seasons, feasts, Catalogue and Names answer the tables. -/
import Derived.Test.YtkpicinbckedoaaQx3
import Derived.Test.YtkpicinbckedoaaHBuiltinTab
import Derived.Deep.WholeRow
namespace Go.Proofs.Ytkpicinbckedoaa.Q
open Go.RowKit Go.Proofs.YtkpicinbckedoaaW.PrintWords Go.Proofs.YtkpicinbckedoaaW.PrintLast Go.Proofs.YtkpicinbckedoaaW.PrintMore
set_option linter.unusedVariables false
set_option linter.unusedSimpArgs false


/-- The cells of a list of elements of nine cells each. -/
theorem reps_flat {α : Type} {R : α → List Value → Prop} {c : α → List Value} (hc : ∀ x, R x (c x)) (n : Nat) (hl : ∀ x, (c x).length = n) : ∀ l : List α, Reps R n l (l.flatMap c)
  | [] => Reps.none _ _
  | x :: l => Reps.front (hc x) (hl x) (reps_flat hc n hl l) rfl

/-- A row out of an array of the call's own. -/
theorem array_row {α : Type} (d : Kd α) (e : Nat) (W : World) (base n : Nat) (cs : Array Value) (xs : List α) (hn : xs.length = n) (hbase : base ≤ W.heap.size) (hn2 : n ≤ maxLen) (hr : ∀ ok : Nat → Prop, Reps (d.M (W.alloc (.cells cs e)) base ok) d.sz xs cs.toList) :
    d.R e (W.alloc (.cells cs e)) base (fun _ => True) (.slice (some ⟨W.heap.size, 0, none⟩) n n) xs := by
  subst hn
  refine ⟨fun _ _ => trivial, cs.toList, ?_, hr _⟩
  exact World.ownsRow_lit (base := base) (e := e) (size := d.sz) W cs xs.length hbase hn2 (by simpa using (hr (fun _ => True)).1)

/-- A whole array into the variable that was made last. -/
theorem store_new {P : Program} {ops : Array Oper} {rest : List Oper} {o : Oper} {a : Act} {Q : Exit → Act → World → Prop} {w : World} (hgd : o.guard = none) (t : TypeId) (p v : Operand) (ho : o.op = .store t p v) (hN : o.dst = none) (c c' : Array Value)
    (hp : a.eval p = .pointer (some ⟨w.heap.size, 0, none⟩)) (hv : a.eval v = .agg c') (hi : (P.info? t).map (·.size) = some c'.size) (hs : c.size = c'.size) (h1 : c'.all (·.oneCell') = true) (h : wpList P ops Q rest a (w.alloc (.cells c' t))) :
    wpList P ops Q (o :: rest) a (w.alloc (.cells c t)) := by
  refine wpList_plain hgd fun K hK => ?_
  unfold Oper.wp
  have h2 := hK _ _ h
  simp only [execOp, ho, hp, hv, Sem.run_bind, run_storeAt_new w t c c' hi hs h1, Result.andThen, Sem.run_pure, Oper.upon, hN]
  exact h2

def cellsS (x : S33) : List Value := [.string x.f0, .int .i64 x.f1, .int .i64 x.f2, .int .i64 x.f3.f0, .int .i64 x.f3.f1, .int .i64 x.f3.f2, .int .i64 x.f3.f3, .int .i64 x.f3.f4, .int .i64 x.f3.f5]
def allS : Array Value := (bSeasons.flatMap cellsS).toArray
def cellsF (x : S35) : List Value := [.string x.f0, .int .i64 x.f1, .int .i64 x.f2, .int .i64 x.f3.f0, .int .i64 x.f3.f1, .int .i64 x.f3.f2, .int .i64 x.f3.f3, .int .i64 x.f3.f4, .int .i64 x.f3.f5]
def allF : Array Value := (bFeasts.flatMap cellsF).toArray

set_option maxHeartbeats 8000000 in
set_option maxRecDepth 100000 in
theorem seasons_any (w : World) : Calls Try.prog 27 #[] w fun e w' => ∃ v : Value, e = .returned v ∧ Kd.R k33 86 w' w.heap.size (fun _ => True) v bSeasons ∧ Below w.heap.size w w' := by
  have hu := Try.underlying33
  have hu2 := Try.underlying31
  have HB := Aside0.mk (Below.refl w.heap.size w)
  go_enter Try.func27, Try.ntmps27
  go_wp2_with (first | (go_at_call 55; refine (builtin_after.calls _ _ _ _ _ _ _ _ _ _ rfl).mono ?_; rintro e w7 ⟨rfl, hb⟩; have n0_ := Aside0.mk (below_step HB.out hb); clear HB hb; have HB := n0_; clear n0_) | (go_at_call 56; refine (builtin_paschal.calls _ _ _ _ _ _ _ _ rfl).mono ?_; rintro e w7 ⟨rfl, hb⟩; have n0_ := Aside0.mk (below_step HB.out hb); clear HB hb; have HB := n0_; clear n0_) | (go_at_call 57; refine (builtin_fixed.calls _ _ _ _ _ _ _ _ _ rfl).mono ?_; rintro e w7 ⟨rfl, hb⟩; have n0_ := Aside0.mk (below_step HB.out hb); clear HB hb; have HB := n0_; clear n0_) | ((with_reducible refine gate_dst (N := 18) rfl ?_); refine event_run (v := .agg allS) (w1 := w7) rfl ?hr ?_; (case hr => kernel_rfl)) | ((with_reducible refine gate_store (t := 86) (p := 1) rfl ?_); refine store_new rfl 86 _ _ rfl rfl _ allS rfl rfl (by kernel_rfl) (by kernel_rfl) (by kernel_rfl) ?_) | fail)
  go_ret
  exact ⟨_, rfl, array_row k33 _ _ _ 8 _ bSeasons rfl HB.out.size (by decide) (fun ok => reps_flat (R := k33.M _ _ ok) (c := cellsS) (fun x => k33_mkM _ _ _ x) 9 (fun _ => rfl) bSeasons), HB.out.alloc HB.out.size _⟩

set_option maxHeartbeats 8000000 in
set_option maxRecDepth 100000 in
theorem feasts_any (w : World) : Calls Try.prog 28 #[] w fun e w' => ∃ v : Value, e = .returned v ∧ Kd.R k35 87 w' w.heap.size (fun _ => True) v bFeasts ∧ Below w.heap.size w w' := by
  have hu := Try.underlying35
  have hu2 := Try.underlying31
  have HB := Aside0.mk (Below.refl w.heap.size w)
  go_enter Try.func28, Try.ntmps28
  go_wp2_with (first | (go_at_call 55; refine (builtin_after.calls _ _ _ _ _ _ _ _ _ _ rfl).mono ?_; rintro e w7 ⟨rfl, hb⟩; have n0_ := Aside0.mk (below_step HB.out hb); clear HB hb; have HB := n0_; clear n0_) | (go_at_call 56; refine (builtin_paschal.calls _ _ _ _ _ _ _ _ rfl).mono ?_; rintro e w7 ⟨rfl, hb⟩; have n0_ := Aside0.mk (below_step HB.out hb); clear HB hb; have HB := n0_; clear n0_) | (go_at_call 57; refine (builtin_fixed.calls _ _ _ _ _ _ _ _ _ rfl).mono ?_; rintro e w7 ⟨rfl, hb⟩; have n0_ := Aside0.mk (below_step HB.out hb); clear HB hb; have HB := n0_; clear n0_) | ((with_reducible refine gate_dst (N := 52) rfl ?_); refine event_run (v := .agg allF) (w1 := w7) rfl ?hr ?_; (case hr => kernel_rfl)) | ((with_reducible refine gate_store (t := 87) (p := 1) rfl ?_); refine store_new rfl 87 _ _ rfl rfl _ allF rfl rfl (by kernel_rfl) (by kernel_rfl) (by kernel_rfl) ?_) | fail)
  go_ret
  exact ⟨_, rfl, array_row k35 _ _ _ 25 _ bFeasts rfl HB.out.size (by decide) (fun ok => reps_flat (R := k35.M _ _ ok) (c := cellsF) (fun x => k35_mkM _ _ _ x) 9 (fun _ => rfl) bFeasts), HB.out.alloc HB.out.size _⟩
end Go.Proofs.Ytkpicinbckedoaa.Q
