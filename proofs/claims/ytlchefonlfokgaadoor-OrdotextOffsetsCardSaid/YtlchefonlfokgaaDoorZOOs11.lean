/- What is proved: what the statement OrdotextOffsetsSaid needs, part 12 of 12; the last part proves the statement. No condition. -/
import Derived.Test.YtlchefonlfokgaaDoorZOOs10
import Derived.Test.YtlchefonlfokgaaDoorTie
import Derived.Test.YtlchefonlfokgaaDoorCards
import Derived.ShutString
import Derived.ChangeOld
import Derived.LaidMore
import Derived.SevenTiedAt
import Derived.Stop.Joined
set_option maxHeartbeats 8000000
set_option maxRecDepth 100000
set_option linter.unusedVariables false
set_option linter.unusedSimpArgs false
section
namespace Go.Proofs.YtlchefonlfokgaaDoor.ordotextCanonical
open Go.ChangeShapes Go.WideShapes Go.ChangeAt Go.RowKit Go.Proofs.YtlchefonlfokgaaDoorW.PrintWords Go.Proofs.YtlchefonlfokgaaDoor.Q
open Go.ChangeMaps (open_string shut_string)
theorem own : ownKnob Tryd.prog.godebug = none := by kernel_rfl
theorem laidOut : laidOutB Tryd.prog = true := by kernel_rfl
theorem door_met (os : Os) (args : Array Value) : laidMetH Tryd.prog Rows.ordotextCanonicalRow.laid ((World.doorLaid Tryd.prog 400 os).forCall (fun _ _ => 0) ⟨#[], args, []⟩).memory :=
 laidMetH_of_parts3 (fuel := 8) (laidMet_of_run' 8 (by kernel_rfl) (by kernel_rfl)) (by kernel_rfl) (by kernel_rfl)
theorem lifted (os : Os) (started : os.Started) (H : Type) (enc : TypeId × Value → H) :
  ReturnsInHanded {} Tryd.checked os 4 .any (fun w args => (Rows.ordotextCanonicalSpec.pre enc Tryd.prog Tryd.f4 [] false w args ∧ laidMetH Tryd.prog Rows.ordotextCanonicalRow.laid w) ∧ sizedMet enc Tryd.prog Tryd.f4 (OpenSpec.ofChange Rows.ordotextCanonicalSpec) false w args) (Rows.ordotextCanonicalSpec.post enc Tryd.prog Tryd.f4 false true false false) := by
 refine returnsInHanded_of_change_and (C := Tryd.checked) (X := fun w _ => laidMetH Tryd.prog Rows.ordotextCanonicalRow.laid w) (fun _ _ _ hh h => h.of_heap hh) own started (by kernel_rfl) Tryd.func4
  (ChangeSpec.witness_shaped (enc := enc) (C := Tryd.checked) (os := os) (X := fun w _ => laidMetH Tryd.prog Rows.ordotextCanonicalRow.laid w) false (World.doorLaid Tryd.prog 400 os) #[.agg #[.int .i64 0, .slice none 0 0]] 8 rfl (World.shaped_of_RefB (by kernel_rfl) (by kernel_rfl)) (by kernel_rfl) (by kernel_rfl) (by kernel_rfl) (door_met os _)) ?_
 intro W base args ds gs before hval0 hW hcnd hsz0 hL _
 have hsz : (DataW.weightsEach Tryd.prog (Tryd.f4.params.toList ++ Rows.ordotextCanonicalSpec.plain.varTypes Tryd.prog) (ds ++ gs)).all (· ≤ reachBytes) = true := hsz0
 have hval : ∀ (j : Nat) t v, Tryd.f4.params[j]? = some t → args[j]? = some v → Value.okWide Tryd.prog W .any base t v := hval0
 have hW' := hW
 obtain ⟨p, q, hA0, hV, rfl, hfz, hnd⟩ := hW
 have hA : DataW.TrodAll enc Tryd.prog W 0 (fun _ => true) true Tryd.f4.params.toList args.toList ds p := hA0
 rw [Tryd.params4] at hA hval hsz
 obtain ⟨v0, vs0, d0, ds0, p0, q0, hargs, rfl, rfl, h0, r0⟩ := trodAll_cons hA
 obtain ⟨rfl, rfl, rfl⟩ := trodAll_nil r0
 obtain rfl : args = #[v0] := by cases args; simp_all
 obtain ⟨rfl, rfl⟩ := trodVars_none hV
 have k0 := h0
 have lt0 : ∀ x ∈ p0, x.block < W.heap.size := by obtain ⟨m, hm⟩ := k0; exact DataW.trod_lt m _ _ _ hm
 obtain ⟨cs0, x0, rfl, hK0, hw0⟩ := open_struct Tryd.underlying25 op25 (hval 0 25 v0 rfl rfl) h0
 obtain ⟨A0_1, c0_1, rfl, hc0_1, hr0_1⟩ := k25_open hK0
 clear hA0 hval0 hsz0 hsz
 obtain ⟨k, hf⟩ := Pure.OrdotextCanonical x0.f0 x0.f1 hw0.1 hw0.2.1 hw0.2.2
 refine (Q.computuslaw27_OrdotextCanonical.calls (k := k) (w := W) (r := true) (hr0_1 := hr0_1) (hc0_1 := hc0_1) (hT := tabs_row hL) (h := hf)).mono fun e W' ⟨he, hd⟩ => ?_
 subst he
 have bel : Below W.heap.size W W' := hd
 exact ⟨_, rfl, _, _, _, [], _, [], hW', trodAll_mk1 (shut_bool Tryd.underlying4 _), (trodAll_cons_mk (Below.trod laidOut (by kernel_rfl) (of_decide_eq_true (by kernel_rfl)) k0 bel lt0) trodAll_mk0), rfl, bel.frame _, fun h => by cases h⟩
theorem over : Rows.ordotextCanonicalRow.holds Tryd.pinned (OpenSpec.ofChange Rows.ordotextCanonicalSpec) :=
 OpenClaim.holds_of_wide 4 Tryd.f4 rfl rfl rfl rfl rfl rfl rfl ⟨rfl, rfl, rfl, rfl, rfl⟩ rfl rfl rfl rfl rfl (by kernel_rfl) Tryd.func4 (by kernel_rfl)
  (of_decide_eq_true (by kernel_rfl)) (by unfold Func.isWrapper; first | (rw [if_pos (by decide +kernel)]; kernel_rfl) | (rw [if_neg (by decide +kernel)]; exact ⟨rfl, rfl⟩))
  (fun os started H enc _ => lifted os started H enc)
theorem proved : Rows.OrdotextCanonicalCardSaid :=
 Claim7.holds_tied_plain_at .later [] [.data, .data, .data, .data, .widerDeep] true (true, "fbb649e9f719bd2b8dcff64b536c53961f34130c9224932c9f8c41654ff39dd4") true
  over (fun _ h => by cases h) (by kernel_rfl) (fun _ h => by cases h) ordotextCanonical_row_tie rfl ⟨rfl, rfl⟩ (by kernel_rfl) rfl
  (fun f fn hf hfn => by
   obtain rfl : f = 4 := Option.some.inj ((show Tryd.prog.funcNamed "computus/computuslaw27.OrdotextCanonical" = some 4 by kernel_rfl).symm.trans hf) |>.symm
   obtain rfl : fn = Tryd.f4 := (Option.some.inj (Tryd.func4.symm.trans hfn)).symm
   exact ⟨by kernel_rfl, fun j t ht => by
    rw [Tryd.params4] at ht
    have hm : t ∈ [25] := by simpa using Array.mem_of_getElem? ht
    have hall : ([25].all fun u => !Tryd.prog.wantsStandIn u) = true := by kernel_rfl
    exact (show Tryd.prog.wantsStandIn t = false by simpa using List.all_eq_true.1 hall t hm)⟩)
  (by kernel_rfl)
#print axioms proved
end Go.Proofs.YtlchefonlfokgaaDoor.ordotextCanonical
namespace Go.Proofs.YtlchefonlfokgaaDoor
theorem ordotextCanonical_holds : Rows.OrdotextCanonicalCardSaid := ordotextCanonical.proved
end Go.Proofs.YtlchefonlfokgaaDoor
end
section
namespace Go.Proofs.YtlchefonlfokgaaDoor.ordotextOffsets
open Go.ChangeShapes Go.WideShapes Go.ChangeAt Go.RowKit Go.Proofs.YtlchefonlfokgaaDoorW.PrintWords Go.Proofs.YtlchefonlfokgaaDoor.Q
open Go.ChangeMaps (open_string shut_string)
theorem own : ownKnob Tryd.prog.godebug = none := by kernel_rfl
theorem laidOut : laidOutB Tryd.prog = true := by kernel_rfl
theorem door_met (os : Os) (args : Array Value) : laidMetH Tryd.prog Rows.ordotextOffsetsRow.laid ((World.doorLaid Tryd.prog 400 os).forCall (fun _ _ => 0) ⟨#[], args, []⟩).memory :=
 laidMetH_of_parts3 (fuel := 8) (laidMet_of_run' 8 (by kernel_rfl) (by kernel_rfl)) (by kernel_rfl) (by kernel_rfl)
theorem lifted (os : Os) (started : os.Started) (H : Type) (enc : TypeId × Value → H) :
  ReturnsInHanded {} Tryd.checked os 6 .any (fun w args => (Rows.ordotextOffsetsSpec.pre enc Tryd.prog Tryd.f6 [] false w args ∧ laidMetH Tryd.prog Rows.ordotextOffsetsRow.laid w) ∧ sizedMet enc Tryd.prog Tryd.f6 (OpenSpec.ofChange Rows.ordotextOffsetsSpec) false w args) (Rows.ordotextOffsetsSpec.post enc Tryd.prog Tryd.f6 false true false false) := by
 refine returnsInHanded_of_change_and (C := Tryd.checked) (X := fun w _ => laidMetH Tryd.prog Rows.ordotextOffsetsRow.laid w) (fun _ _ _ hh h => h.of_heap hh) own started (by kernel_rfl) Tryd.func6
  (ChangeSpec.witness_shaped (enc := enc) (C := Tryd.checked) (os := os) (X := fun w _ => laidMetH Tryd.prog Rows.ordotextOffsetsRow.laid w) false (World.doorLaid Tryd.prog 400 os) #[.agg #[.int .i64 0, .slice none 0 0], .int .u16 0] 8 rfl (World.shaped_of_RefB (by kernel_rfl) (by kernel_rfl)) (by kernel_rfl) (by kernel_rfl) (by kernel_rfl) (door_met os _)) ?_
 intro W base args ds gs before hval0 hW hcnd hsz0 hL _
 have hsz : (DataW.weightsEach Tryd.prog (Tryd.f6.params.toList ++ Rows.ordotextOffsetsSpec.plain.varTypes Tryd.prog) (ds ++ gs)).all (· ≤ reachBytes) = true := hsz0
 have hval : ∀ (j : Nat) t v, Tryd.f6.params[j]? = some t → args[j]? = some v → Value.okWide Tryd.prog W .any base t v := hval0
 have hW' := hW
 obtain ⟨p, q, hA0, hV, rfl, hfz, hnd⟩ := hW
 have hA : DataW.TrodAll enc Tryd.prog W 0 (fun _ => true) true Tryd.f6.params.toList args.toList ds p := hA0
 rw [Tryd.params6] at hA hval hsz
 obtain ⟨v0, vs0, d0, ds0, p0, q0, hargs, rfl, rfl, h0, r0⟩ := trodAll_cons hA
 obtain ⟨v1, vs1, d1, ds1, p1, q1, rfl, rfl, rfl, h1, r1⟩ := trodAll_cons r0
 obtain ⟨rfl, rfl, rfl⟩ := trodAll_nil r1
 obtain rfl : args = #[v0, v1] := by cases args; simp_all
 obtain ⟨rfl, rfl⟩ := trodVars_none hV
 have k0 := h0
 have lt0 : ∀ x ∈ p0, x.block < W.heap.size := by obtain ⟨m, hm⟩ := k0; exact DataW.trod_lt m _ _ _ hm
 obtain ⟨cs0, x0, rfl, hK0, hw0⟩ := open_struct Tryd.underlying25 op25 (hval 0 25 v0 rfl rfl) h0
 obtain ⟨A0_1, c0_1, rfl, hc0_1, hr0_1⟩ := k25_open hK0
 obtain ⟨a1, rfl, rfl, rfl, w1⟩ := open_int Tryd.underlying41 (hval 1 41 v1 rfl rfl) h1
 clear hA0 hval0 hsz0 hsz
 obtain ⟨k, hf⟩ := Pure.OrdotextOffsets x0.f0 x0.f1 a1 hw0.1 hw0.2.1 hw0.2.2 w1
 refine (Q.computuslaw27_OrdotextOffsets.calls (k := k) (w := W) (r := true) (hr0_1 := hr0_1) (hc0_1 := hc0_1) (hT := tabs_row hL) (h := hf)).mono fun e W' ⟨he, hd⟩ => ?_
 subst he
 have bel : Below W.heap.size W W' := hd
 exact ⟨_, rfl, _, _, _, [], _, [], hW', trodAll_mk1 (shut_bool Tryd.underlying4 _), (trodAll_cons_mk (Below.trod laidOut (by kernel_rfl) (of_decide_eq_true (by kernel_rfl)) k0 bel lt0) (trodAll_cons_mk (shut_int Tryd.underlying41 w1) trodAll_mk0)), rfl, bel.frame _, fun h => by cases h⟩
theorem over : Rows.ordotextOffsetsRow.holds Tryd.pinned (OpenSpec.ofChange Rows.ordotextOffsetsSpec) :=
 OpenClaim.holds_of_wide 6 Tryd.f6 rfl rfl rfl rfl rfl rfl rfl ⟨rfl, rfl, rfl, rfl, rfl⟩ rfl rfl rfl rfl rfl (by kernel_rfl) Tryd.func6 (by kernel_rfl)
  (of_decide_eq_true (by kernel_rfl)) (by unfold Func.isWrapper; first | (rw [if_pos (by decide +kernel)]; kernel_rfl) | (rw [if_neg (by decide +kernel)]; exact ⟨rfl, rfl⟩))
  (fun os started H enc _ => lifted os started H enc)
theorem proved : Rows.OrdotextOffsetsCardSaid :=
 Claim7.holds_tied_plain_at .later [] [.data, .data, .data, .data, .widerDeep] true (true, "fbb649e9f719bd2b8dcff64b536c53961f34130c9224932c9f8c41654ff39dd4") true
  over (fun _ h => by cases h) (by kernel_rfl) (fun _ h => by cases h) ordotextOffsets_row_tie rfl ⟨rfl, rfl⟩ (by kernel_rfl) rfl
  (fun f fn hf hfn => by
   obtain rfl : f = 6 := Option.some.inj ((show Tryd.prog.funcNamed "computus/computuslaw27.OrdotextOffsets" = some 6 by kernel_rfl).symm.trans hf) |>.symm
   obtain rfl : fn = Tryd.f6 := (Option.some.inj (Tryd.func6.symm.trans hfn)).symm
   exact ⟨by kernel_rfl, fun j t ht => by
    rw [Tryd.params6] at ht
    have hm : t ∈ [25, 41] := by simpa using Array.mem_of_getElem? ht
    have hall : ([25, 41].all fun u => !Tryd.prog.wantsStandIn u) = true := by kernel_rfl
    exact (show Tryd.prog.wantsStandIn t = false by simpa using List.all_eq_true.1 hall t hm)⟩)
  (by kernel_rfl)
#print axioms proved
end Go.Proofs.YtlchefonlfokgaaDoor.ordotextOffsets
namespace Go.Proofs.YtlchefonlfokgaaDoor
theorem ordotextOffsets_holds : Rows.OrdotextOffsetsCardSaid := ordotextOffsets.proved
end Go.Proofs.YtlchefonlfokgaaDoor
end
