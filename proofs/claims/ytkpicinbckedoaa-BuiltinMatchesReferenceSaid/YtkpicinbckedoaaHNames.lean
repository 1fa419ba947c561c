/- What is proved: calls of builtin's Catalogue and Names answer the tables. -/
import Derived.Test.YtkpicinbckedoaaHBuiltin
import Derived.Test.YtkpicinbckedoaaHConcat
import Derived.Deep.MidRow
namespace Go.Proofs.Ytkpicinbckedoaa.Q
open Go.RowKit Go.Proofs.YtkpicinbckedoaaW.PrintWords Go.Proofs.YtkpicinbckedoaaW.PrintLast Go.Proofs.YtkpicinbckedoaaW.PrintMore
set_option linter.unusedVariables false
set_option linter.unusedSimpArgs false

theorem seasons_row (w : World) : Calls Try.prog 27 #[] w fun e w' => ∃ A c, e = .returned (.slice A 8 c) ∧ Kd.R k33 86 w' w.heap.size (fun _ => True) (.slice A 8 c) bSeasons ∧ Below w.heap.size w w' := by
  refine (seasons_any w).mono ?_
  rintro e w' ⟨v, rfl, hr, hb⟩
  obtain ⟨A, c, rfl⟩ := Kd.R_slice hr
  exact ⟨A, c, rfl, hr, hb⟩
theorem feasts_row (w : World) : Calls Try.prog 28 #[] w fun e w' => ∃ A c, e = .returned (.slice A 25 c) ∧ Kd.R k35 87 w' w.heap.size (fun _ => True) (.slice A 25 c) bFeasts ∧ Below w.heap.size w w' := by
  refine (feasts_any w).mono ?_
  rintro e w' ⟨v, rfl, hr, hb⟩
  obtain ⟨A, c, rfl⟩ := Kd.R_slice hr
  exact ⟨A, c, rfl, hr, hb⟩

/-- A struct of three cells stored whole into its variable. -/
def set3 (w : World) (g : Nat) (x y z : Value) : World := ((w.setCell ⟨g, 0, none⟩ x).setCell ⟨g, 1, none⟩ y).setCell ⟨g, 2, none⟩ z
theorem set3_blk {w : World} {g : Nat} {t : TypeId} {c : Array Value} (hb : w.heap[g]? = some (.cells c t (0, 0))) (hs : c.size = 3) (x y z : Value) : (set3 w g x y z).heap[g]? = some (.cells #[x, y, z] t (0, 0)) := by
  have h := blk_set (blk_set (blk_set hb 0 x) 1 y) 2 z
  obtain ⟨l⟩ := c
  rcases l with _ | ⟨a, _ | ⟨b, _ | ⟨d, _ | ⟨e, r⟩⟩⟩⟩ <;> simp at hs
  unfold set3
  simpa using h
theorem set3_cells {w : World} {g : Nat} {t : TypeId} {c : Array Value} (hb : w.heap[g]? = some (.cells c t (0, 0))) (hs : c.size = 3) (x y z : Value) : (set3 w g x y z).cell? ⟨g, 0, none⟩ = some x ∧ (set3 w g x y z).cell? ⟨g, 1, none⟩ = some y ∧ (set3 w g x y z).cell? ⟨g, 2, none⟩ = some z :=
  ⟨blk_cell (set3_blk hb hs x y z) 0, blk_cell (set3_blk hb hs x y z) 1, blk_cell (set3_blk hb hs x y z) 2⟩
theorem set3_far {w : World} {g : Nat} (x y z : Value) (k : Nat) (hk : k ≠ g) : (set3 w g x y z).heap[k]? = w.heap[k]? := by
  unfold set3
  rw [Below.heap_setCell _ _ _ _ (by exact hk), Below.heap_setCell _ _ _ _ (by exact hk), Below.heap_setCell _ _ _ _ (by exact hk)]
theorem set3_below {w W : World} {g : Nat} (h : Below w.heap.size w W) (hg : w.heap.size ≤ g) (x y z : Value) : Below w.heap.size w (set3 W g x y z) := below_set (below_set (below_set h hg) hg) hg
theorem store3 {P : Program} {ops : Array Oper} {rest : List Oper} {o : Oper} {a : Act} {Q : Exit → Act → World → Prop} {w : World} (hgd : o.guard = none) (hN : o.dst = none) (t : TypeId) (p v : Operand) (ho : o.op = .store t p v) (g : Nat) (c : Array Value) (x y z : Value)
    (hb : w.heap[g]? = some (.cells c t (0, 0))) (hs : c.size = 3) (hp : a.eval p = .pointer (some ⟨g, 0, none⟩)) (hv : a.eval v = .agg #[x, y, z]) (hi : (P.info? t).map (·.size) = some 3) (hx : x.oneCell' = true) (hy : y.oneCell' = true) (hz : z.oneCell' = true)
    (h : wpList P ops Q rest a (set3 w g x y z)) : wpList P ops Q (o :: rest) a w := by
  refine wpList_store_mid hgd t p v ho g 0 #[x, y, z] hp hv ?_ hi (by simp [hx, hy, hz]) ?_
  · intro j hj
    refine ⟨?_, blk_frozen hb _⟩
    rw [blk_cell hb, Array.getElem?_eq_getElem (by rw [hs, Nat.zero_add]; exact hj)]
    rfl
  · rw [hN]; exact h

/-- A catalogue of the tables in the call's own rows. -/
structure Cat_ (w w' : World) (A1 A2 : Option Addr) (c1 c2 : Nat) : Prop where
  s : Kd.R k33 86 w' w.heap.size (fun k => True ∧ some k ≠ (Value.slice A2 25 c2).ownBlock) (.slice A1 8 c1) bSeasons
  f : Kd.R k35 87 w' w.heap.size (fun k => True ∧ some k ≠ (Value.slice A1 8 c1).ownBlock) (.slice A2 25 c2) bFeasts
  b : Below w.heap.size w w'

set_option maxHeartbeats 8000000 in
set_option maxRecDepth 100000 in
theorem catalogue_any (w : World) : Calls Try.prog 7 #[] w fun e w' => ∃ A1 c1 A2 c2, e = .returned (.agg #[.int .i64 5, .slice A1 8 c1, .slice A2 25 c2]) ∧ Cat_ w w' A1 A2 c1 c2 := by
  have hu := Try.underlying26
  have HB := Aside0.mk (Below.refl w.heap.size w)
  go_enter Try.func7, Try.ntmps7
  go_wp2_with (first | (go_at_call 27; refine (seasons_row _).mono ?_; rintro e w1 ⟨A1, c1, rfl, hr, hb⟩; have HS := Aside0.mk (And.intro hr (And.intro hb (blk_below (blk_new _ _) hb))); clear hr hb) | (go_at_call 28; refine (feasts_row _).mono ?_; rintro e w2 ⟨A2, c2, rfl, hr, hb⟩; have HF := Aside0.mk (And.intro hr (And.intro hb (blk_below HS.out.2.2 hb))); clear hr hb) | ((with_reducible refine gate_store (t := 26) (p := 0) rfl ?_); refine store3 rfl rfl 26 (.tmp 0) (.tmp 3) rfl w.heap.size _ _ _ _ HF.out.2.2 rfl rfl rfl (by kernel_rfl) rfl rfl rfl ?_; obtain ⟨x0, x1, x2⟩ := set3_cells HF.out.2.2 rfl (.int .i64 5) (.slice A1 8 c1) (.slice A2 25 c2)))
  refine bodyPost_ret (results_cell_row rfl _ _ w.heap.size 26 #[.int .i64 5, .slice A1 8 c1, .slice A2 25 c2] (0, 0) _ rfl (set3_blk HF.out.2.2 rfl _ _ _) hu rfl (by kernel_rfl)) rfl ?_
  have hs0 : w.heap.size ≤ (w.alloc (.cells #[.int .i64 0, .slice none 0 0, .slice none 0 0] 26)).heap.size := (below_alloc (Below.refl _ _) _).size
  have hlt : w.heap.size < (w.alloc (.cells #[.int .i64 0, .slice none 0 0, .slice none 0 0] 26)).heap.size := blk_lt (blk_new w _)
  have hB1 := below_step (below_alloc (Below.refl w.heap.size w) (.cells #[.int .i64 0, .slice none 0 0, .slice none 0 0] 26)) HS.out.2.1
  have hB2 := below_step hB1 HF.out.2.1
  have s1 := Kd.R_elder' HS.out.1 (Kd.R_base HF.out.1) HF.out.2.1
  have f1 := Kd.R_new' HF.out.1 (Kd.R_lt HS.out.1)
  have s2 := Kd.R_move (w1 := set3 w2 w.heap.size (.int .i64 5) (.slice A1 8 c1) (.slice A2 25 c2)) (Kd.R_bound s1) (fun k hk => set3_far _ _ _ k (by have := hk.2.1; omega))
  have f2 := Kd.R_move (w1 := set3 w2 w.heap.size (.int .i64 5) (.slice A1 8 c1) (.slice A2 25 c2)) (Kd.R_bound f1) (fun k hk => set3_far _ _ _ k (by have := hk.2.1; have := hB1.size; have := HS.out.2.1.size; omega))
  exact ⟨A1, c1, A2, c2, rfl, Kd.R_mono (Kd.R_lower s2 hs0) (fun k hk => hk.1), Kd.R_mono (Kd.R_lower f2 hB1.size) (fun k hk => hk.1), set3_below hB2 (Nat.le_refl _) _ _ _⟩

/-- A whole array into the variable that was made last, the world behind it unnamed. -/
theorem store_newA {P : Program} {ops : Array Oper} {rest : List Oper} {o : Oper} {a : Act} {Q : Exit → Act → World → Prop} {w : World} (hgd : o.guard = none) (t : TypeId) (p v : Operand) (ho : o.op = .store t p v) (hN : o.dst = none) (c c' : Array Value)
    (hp : a.eval p = .pointer (some ⟨w.heap.size, 0, none⟩)) (hv : a.eval v = .agg c') (hi : (P.info? t).map (·.size) = some c'.size) (hs : c.size = c'.size) (h1 : c'.all (·.oneCell') = true) (h : ∀ W, Below w.heap.size w W → W.heap[w.heap.size]? = some (.cells c' t (0, 0)) → wpList P ops Q rest a W) :
    wpList P ops Q (o :: rest) a (w.alloc (.cells c t)) :=
  store_new hgd t p v ho hN c c' hp hv hi hs h1 (h _ (below_alloc (Below.refl _ _) _) (blk_new _ _))
theorem cells9 (a b c d e f g h i : Value) (h0 : a.oneCell' = true) (h1 : b.oneCell' = true) (h2 : c.oneCell' = true) (h3 : d.oneCell' = true) (h4 : e.oneCell' = true) (h5 : f.oneCell' = true) (h6 : g.oneCell' = true) (h7 : h.oneCell' = true) (h8 : i.oneCell' = true) : (#[a, b, c, d, e, f, g, h, i] : Array Value).all (·.oneCell') = true := by
  simp [h0, h1, h2, h3, h4, h5, h6, h7, h8]

theorem take_id {α β : Type} (l : List α) (f : α → β) (z : α) (i : Nat) (hi : i < l.length) : (l.take i).map f ++ [f (l.getD i z)] = (l.take (i + 1)).map f := by
  rw [List.take_succ_eq_append_getElem hi, List.map_append]
  simp [List.getD, List.getElem?_eq_getElem hi]
theorem R_sl {α : Type} {d : Kd α} {e base : Nat} {ok : Nat → Prop} {w : World} {v : Value} {xs : List α} (h : d.R e w base ok v xs) (n : Nat) (hn : xs.length = n) : ∃ A c, v = .slice A n c := by
  subst hn; exact Kd.R_slice h
set_option maxHeartbeats 4000000 in
theorem collect_any (b : Nat) (A1 A2 : Option Addr) (l1 l2 : List ByteArray) (c1 c2 c : Nat) (w : World) (h : Two_ b A1 A2 l1 l2 c1 c2 w) :
    Calls Try.prog 29 #[.slice (some ⟨b, 0, none⟩) 2 c] w fun e w' => ∃ v, e = .returned v ∧ Kd.R Kd.string 9 w' w.heap.size (fun _ => True) v (l1 ++ l2) ∧ Below w.heap.size w w' := by
  have H := Aside0.mk h
  clear h
  go_enter Try.func29, Try.ntmps29
  go_wp2_with (go_at_call 58; refine (concat_any _ _ _ _ _ _ _ _ _ H.out).mono ?_; rintro e w1 ⟨v1, rfl, hr, hb⟩; have G := Aside0.mk (And.intro hr hb); clear hr hb)
  go_ret
  exact ⟨_, rfl, G.out⟩
/-- A catalogue lies in block g, beside the rows of the tables. -/
structure Held_ (W : World) (g : Nat) (A1 A2 : Option Addr) (c1 c2 : Nat) : Prop where
  g : W.heap[g]? = some (.cells #[.int .i64 5, .slice A1 8 c1, .slice A2 25 c2] 26 (0, 0))
  s : Kd.C k33 W A1 8 bSeasons
  f : Kd.C k35 W A2 25 bFeasts
theorem Held_.below {W W1 : World} {g : Nat} {A1 A2 : Option Addr} {c1 c2 : Nat} (h : Held_ W g A1 A2 c1 c2) (hb : Below W.heap.size W W1) : Held_ W1 g A1 A2 c1 c2 := ⟨blk_below h.g hb, Kd.C_below h.s hb, Kd.C_below h.f hb⟩
theorem Cat_.held {w w' : World} {A1 A2 : Option Addr} {c1 c2 : Nat} (h : Cat_ w w' A1 A2 c1 c2) : Held_ (set3 (w'.alloc (.cells #[.int .i64 0, .slice none 0 0, .slice none 0 0] 26)) w'.heap.size (.int .i64 5) (.slice A1 8 c1) (.slice A2 25 c2)) w'.heap.size A1 A2 c1 c2 := by
  have hb : Below w'.heap.size w' (set3 (w'.alloc (.cells #[.int .i64 0, .slice none 0 0, .slice none 0 0] 26)) w'.heap.size (.int .i64 5) (.slice A1 8 c1) (.slice A2 25 c2)) := set3_below (below_alloc (Below.refl _ _) _) (Nat.le_refl _) _ _ _
  exact ⟨set3_blk (blk_new _ _) rfl _ _ _, Kd.C_below (Kd.R_reads' h.s).2.2 hb, Kd.C_below (Kd.R_reads' h.f).2.2 hb⟩

set_option maxHeartbeats 8000000 in
set_option maxRecDepth 100000 in
theorem names_any (w : World) : Calls Try.prog 8 #[] w fun e w' => ∃ v, e = .returned v ∧ Kd.R Kd.string 9 w' w.heap.size (fun _ => True) v bNames ∧ Below w.heap.size w w' := by
  have hu := Try.underlying26
  have hu33 := Try.underlying33
  have hu35 := Try.underlying35
  go_enter Try.func8, Try.ntmps8
  go_wp2_with (first | (go_at_call 7; refine (catalogue_any _).mono ?_; rintro e w1 ⟨A1, c1, A2, c2, rfl, hc⟩; have HC := Aside0.mk hc; clear hc) | ((with_reducible refine gate_store (t := 26) (p := 1) rfl ?_); refine store3 rfl rfl 26 (.tmp 1) (.tmp 8) rfl w1.heap.size _ _ _ _ (blk_new _ _) rfl rfl rfl (by kernel_rfl) rfl rfl rfl ?_; have HH := Aside0.mk HC.out.held; have HB := Aside0.mk (set3_below (below_alloc HC.out.b (.cells #[.int .i64 0, .slice none 0 0, .slice none 0 0] 26)) HC.out.b.size (.int .i64 5) (.slice A1 8 c1) (.slice A2 25 c2)); generalize hW : set3 _ _ _ _ _ = W2 at HH HB ⊢; obtain ⟨g, hg⟩ : ∃ g, g = w1.heap.size := ⟨_, rfl⟩; rw [← hg] at HH ⊢; have x0 : W2.cell? ⟨g, 0, none⟩ = some (.int .i64 5) := blk_cell HH.out.g 0; have x1 : W2.cell? ⟨g, 1, none⟩ = some (.slice A1 8 c1) := blk_cell HH.out.g 1; have x2 : W2.cell? ⟨g, 2, none⟩ = some (.slice A2 25 c2) := blk_cell HH.out.g 2; clear hW hg HC))
  clear x0
  go_loopg [2, 12] 8 (fun kq v2 v12 w' => ∃ i : Nat, v12 = .int .i64 i ∧ Aside0 (i + kq = 8) ∧ ∃ A c, v2 = .slice A i c ∧ Aside0 (Kd.R Kd.string 9 w' W2.heap.size (fun _ => True) (.slice A i c) ((bSeasons.take i).map (·.f0)) ∧ Below W2.heap.size W2 w'))
  case atStart => exact ⟨0, rfl, ⟨rfl⟩, none, 0, rfl, ⟨Kd.R_nil _ _ _ _ _, Below.refl _ _⟩⟩
  case round =>
  obtain ⟨i, rfl, HI, A, c, rfl, HR⟩ := hrel
  by_cases hi : i < 8
  · obtain ⟨k1, rfl⟩ : ∃ m, gk = m + 1 := ⟨gk - 1, by have := HI.out; omega⟩
    have d1 : decide ((i : Int) < 8) = true := decide_eq_true (by omega)
    have d2 : decide (i < 8) = true := decide_eq_true hi
    obtain ⟨ad, rfl, y0, y1, y2, y3, y4, y5, y6, y7, y8⟩ := at_T33 (HH.out.below HR.out.2).s (i : Int) (by omega) (by omega)
    obtain ⟨x, hx⟩ : ∃ x, x = rd_T33 bSeasons (i : Int) := ⟨_, rfl⟩
    rw [← hx] at y0 y1 y2 y3 y4 y5 y6 y7 y8
    simp only [Int.toNat_natCast] at y0 y1 y2 y3 y4 y5 y6 y7 y8
    have HX := Aside0.mk hx
    clear hx
    go_wp2_with (first | ((with_reducible refine gate_store (t := 33) (p := 5) rfl ?_); refine store_newA rfl 33 _ _ rfl rfl _ #[.string x.f0, .int .i64 x.f1, .int .i64 x.f2, .int .i64 x.f3.f0, .int .i64 x.f3.f1, .int .i64 x.f3.f2, .int .i64 x.f3.f3, .int .i64 x.f3.f4, .int .i64 x.f3.f5] rfl rfl (by kernel_rfl) rfl (cells9 _ _ _ _ _ _ _ _ _ rfl rfl rfl rfl rfl rfl rfl rfl rfl) ?_; intro w5 b5 k5; have z0 : w5.cell? ⟨wr.heap.size, 0, none⟩ = some (.string x.f0) := blk_cell k5 0; have HR1 := Aside0.mk (And.intro (Kd.R_below HR.out.1 b5) (below_step HR.out.2 b5)); clear b5 k5) | (at_builtin; refine Kd.R_append Kd.string (w0 := W2) W2.heap.size rfl (.tmp 16) (.tmp 19) 28 9 (.string ⟨#[]⟩) 16 rfl Try.underlying28 str_info_ rfl (by decide) (by omega) (.slice A i c) ((bSeasons.take i).map (·.f0)) x.f0 [.string x.f0] (fun _ => True) (fun _ => False) rfl rfl rfl (fun _ h => h.elim) (fun _ _ => trivial) HR1.out.1 HR1.out.2 HR1.out.2.size (by have : ((bSeasons.take i).map (·.f0)).length ≤ 8 := (by simp only [List.length_map, List.length_take]; have := Nat.min_le_left i bSeasons.length; omega); omega) ?_; intro v1 w6 hr hb hg hat; have H1 := Aside0.mk (And.intro hr hb); clear hr hb hg hat))
    have e : (bSeasons.take i).map (·.f0) ++ [x.f0] = (bSeasons.take (i + 1)).map (·.f0) := by rw [HX.out]; exact take_id bSeasons (·.f0) _ i (by exact hi)
    rw [e] at H1
    obtain ⟨A', c', rfl⟩ := R_sl H1.out.1 (i + 1) (by rw [List.length_map, List.length_take]; exact Nat.min_eq_left (by exact hi))
    go_roundg k1
    case measure => omega
    case rel => exact ⟨i + 1, by go_num, ⟨by have := HI.out; omega⟩, A', c', rfl, H1⟩
  · obtain rfl : i = 8 := by have := HI.out; omega
    clear HI hi x1 x2
    obtain ⟨W3, rfl⟩ : ∃ W, W = wr := ⟨wr, rfl⟩
    obtain ⟨Aq, rfl⟩ : ∃ X, X = A := ⟨_, rfl⟩
    obtain ⟨cq, rfl⟩ : ∃ X, X = c := ⟨_, rfl⟩
    have HH3 := Aside0.mk (HH.out.below HR.out.2)
    have x2 : W3.cell? ⟨g, 2, none⟩ = some (.slice A2 25 c2) := blk_cell HH3.out.g 2
    have HB3 := Aside0.mk (below_step HB.out HR.out.2)
    have HS := Aside0.mk HR.out.1
    have HW := Aside0.mk HB.out.size
    clear HR HH HB
    go_wp2
    go_loopg [3, 25] 25 (fun kq v3 v25 w' => ∃ i : Nat, v25 = .int .i64 i ∧ Aside0 (i + kq = 25) ∧ ∃ A c, v3 = .slice A i c ∧ Aside0 (Kd.R Kd.string 9 w' W3.heap.size (fun _ => True) (.slice A i c) ((bFeasts.take i).map (·.f0)) ∧ Below W3.heap.size W3 w'))
    case atStart => exact ⟨0, rfl, ⟨rfl⟩, none, 0, rfl, ⟨Kd.R_nil _ _ _ _ _, Below.refl _ _⟩⟩
    case round =>
    obtain ⟨i, rfl, HI, A, c, rfl, HR⟩ := hrel
    by_cases hi : i < 25
    · obtain ⟨k1, rfl⟩ : ∃ m, gk = m + 1 := ⟨gk - 1, by have := HI.out; omega⟩
      have d1 : decide ((i : Int) < 25) = true := decide_eq_true (by omega)
      have d2 : decide (i < 25) = true := decide_eq_true hi
      obtain ⟨ad, rfl, y0, y1, y2, y3, y4, y5, y6, y7, y8⟩ := at_T35 (HH3.out.below HR.out.2).f (i : Int) (by omega) (by omega)
      obtain ⟨x, hx⟩ : ∃ x, x = rd_T35 bFeasts (i : Int) := ⟨_, rfl⟩
      rw [← hx] at y0 y1 y2 y3 y4 y5 y6 y7 y8
      simp only [Int.toNat_natCast] at y0 y1 y2 y3 y4 y5 y6 y7 y8
      have HX := Aside0.mk hx
      clear hx
      go_wp2_with (first | ((with_reducible refine gate_store (t := 35) (p := 7) rfl ?_); refine store_newA rfl 35 _ _ rfl rfl _ #[.string x.f0, .int .i64 x.f1, .int .i64 x.f2, .int .i64 x.f3.f0, .int .i64 x.f3.f1, .int .i64 x.f3.f2, .int .i64 x.f3.f3, .int .i64 x.f3.f4, .int .i64 x.f3.f5] rfl rfl (by kernel_rfl) rfl (cells9 _ _ _ _ _ _ _ _ _ rfl rfl rfl rfl rfl rfl rfl rfl rfl) ?_; intro w5 b5 k5; have z0 : w5.cell? ⟨wr.heap.size, 0, none⟩ = some (.string x.f0) := blk_cell k5 0; have HR1 := Aside0.mk (And.intro (Kd.R_below HR.out.1 b5) (below_step HR.out.2 b5)); clear b5 k5) | (at_builtin; refine Kd.R_append Kd.string (w0 := W3) W3.heap.size rfl (.tmp 29) (.tmp 32) 28 9 (.string ⟨#[]⟩) 16 rfl Try.underlying28 str_info_ rfl (by decide) (by omega) (.slice A i c) ((bFeasts.take i).map (·.f0)) x.f0 [.string x.f0] (fun _ => True) (fun _ => False) rfl rfl rfl (fun _ h => h.elim) (fun _ _ => trivial) HR1.out.1 HR1.out.2 HR1.out.2.size (by have : ((bFeasts.take i).map (·.f0)).length ≤ 25 := (by simp only [List.length_map, List.length_take]; have := Nat.min_le_left i bFeasts.length; omega); omega) ?_; intro v1 w6 hr hb hg hat; have H1 := Aside0.mk (And.intro hr hb); clear hr hb hg hat))
      have e : (bFeasts.take i).map (·.f0) ++ [x.f0] = (bFeasts.take (i + 1)).map (·.f0) := by rw [HX.out]; exact take_id bFeasts (·.f0) _ i (by exact hi)
      rw [e] at H1
      obtain ⟨A', c', rfl⟩ := R_sl H1.out.1 (i + 1) (by rw [List.length_map, List.length_take]; exact Nat.min_eq_left (by exact hi))
      go_roundg k1
      case measure => omega
      case rel => exact ⟨i + 1, by go_num, ⟨by have := HI.out; omega⟩, A', c', rfl, H1⟩
    · obtain rfl : i = 25 := by have := HI.out; omega
      have HT := Aside0.mk (show Two_ wr.heap.size _ _ (bSeasons.map (·.f0)) (bFeasts.map (·.f0)) _ _ (wr.alloc (.cells #[.slice Aq 8 cq, .slice A 25 c] 28)) from ⟨⟨_, blk_new _ _, rfl, rfl⟩, Kd.C_alloc (Kd.C_below (Kd.R_reads' HS.out).2.2 HR.out.2) _, Kd.C_alloc (Kd.R_reads' HR.out.1).2.2 _⟩)
      have HB4 := Aside0.mk (below_alloc (below_step HB3.out HR.out.2) (.cells #[.slice Aq 8 cq, .slice A 25 c] 28))
      clear HI hi HR HS HH3 HB3
      go_wp2_with (go_at_call 29; refine (collect_any _ _ _ _ _ _ _ _ _ HT.out).mono ?_; rintro e w9 ⟨v9, rfl, hr, hb⟩; have G := Aside0.mk (And.intro (Kd.R_lower hr HB4.out.size) (below_step HB4.out hb)); clear hr hb)
      go_ret
      exact ⟨_, rfl, G.out⟩
end Go.Proofs.Ytkpicinbckedoaa.Q
