/- What is proved: what the statement CattextOffsetsSaid needs, part 10 of 11; the last part proves the statement. No condition. -/
import Derived.Test.YtlfokdbnbmebiaaDoorZCOs8
import Derived.Deep.MidRow
set_option maxHeartbeats 8000000
set_option maxRecDepth 100000
set_option linter.unusedVariables false
set_option linter.unusedSimpArgs false
section
namespace Go.Proofs.YtlfokdbnbmebiaaDoor.Q
open Go.RowKit Go.Proofs.YtlfokdbnbmebiaaDoorW.PrintWords Go.Proofs.YtlfokdbnbmebiaaDoorW.PrintLast Go.Proofs.YtlfokdbnbmebiaaDoorW.PrintMore
set_option maxRecDepth 100000
def polB (p : Int) : ByteArray := tPols.getD (p - 1).toNat ⟨#[]⟩
def seaW (x : S41) : List ByteArray := [⟨#[115, 101, 97, 115, 111, 110]⟩, x.f0, numB x.f1, numB x.f2]
def feaW (x : S43) : List ByteArray := [⟨#[102, 101, 97, 115, 116]⟩, x.f0, numB x.f1, polB x.f2]
def seaL (x : S41) : List UInt8 := lineL (seaW x ++ frW x.f3)
def feaL (x : S43) : List UInt8 := lineL (feaW x ++ frW x.f3)
def topL (fr : Int) : List UInt8 := lineL [⟨#[99, 97, 116, 97, 108, 111, 103, 117, 101]⟩] ++ lineL [⟨#[102, 114, 101, 101]⟩, numB fr]
def endL : List UInt8 := lineL [⟨#[101, 110, 100]⟩]
def catT (fr : Int) (ls : List S41) (lf : List S43) : List UInt8 := topL fr ++ (ls.map seaL).flatten ++ (lf.map feaL).flatten ++ endL
def okS (x : S41) : Prop := x.f0.size ≤ 1000000 ∧ inI x.f1 ∧ inI x.f2 ∧ inA x.f3
def okF (x : S43) : Prop := x.f0.size ≤ 1000000 ∧ inI x.f1 ∧ (1 ≤ x.f2 ∧ x.f2 ≤ 3) ∧ inA x.f3
instance (x : S41) : Decidable (okS x) := inferInstanceAs (Decidable (_ ∧ _))
instance (x : S43) : Decidable (okF x) := inferInstanceAs (Decidable (_ ∧ _))
def okC (fr : Int) (ls : List S41) (lf : List S43) : Prop := inI fr ∧ ls.length ≤ 1000000 ∧ lf.length ≤ 1000000 ∧ (∀ x ∈ ls, okS x) ∧ ∀ x ∈ lf, okF x
instance (fr : Int) (ls : List S41) (lf : List S43) : Decidable (okC fr ls lf) := inferInstanceAs (Decidable (_ ∧ _ ∧ _ ∧ _ ∧ _))
def cattext_Print.f (a0_0 : Int) (l0_1 : List S41) (l0_2 : List S43) : Option ByteArray := if okC a0_0 l0_1 l0_2 then some ⟨(catT a0_0 l0_1 l0_2).toArray⟩ else none
theorem join_len (sep : List UInt8) : ∀ (x : List UInt8) (r : List (List UInt8)), (Lib.join (x :: r) sep).length = x.length + (r.map fun y => sep.length + y.length).sum
 | x, [] => by simp [Lib.join_one]
 | x, y :: r => by
  rw [Lib.join_cons]
  have e : (List.length ∘ fun z : List UInt8 => sep ++ z) = fun y => sep.length + y.length := by funext z; simp
  simp only [Lib.joinTail, List.length_flatten, List.map_map, List.length_append, List.map_cons, List.sum_cons, e]
theorem lineL_le (ws : List ByteArray) (K : Nat) (h : ∀ x ∈ ws, x.size ≤ K) : (lineL ws).length ≤ ws.length * (K + 1) + 1 := by
 unfold lineL
 rw [List.length_append]
 cases ws with
 | nil => simp [Lib.join_nil]
 | cons x r =>
  rw [List.map_cons, join_len]
  have h1 : x.data.toList.length ≤ K := h x (by simp)
  have h2 : ((r.map (·.data.toList)).map fun y => ([32] : List UInt8).length + y.length).sum ≤ r.length * (K + 1) := by
   have h3 : ∀ l : List ByteArray, (∀ y ∈ l, y.size ≤ K) → ((l.map (·.data.toList)).map fun y => ([32] : List UInt8).length + y.length).sum ≤ l.length * (K + 1) := by
    intro l
    induction l with
    | nil => intro _; simp
    | cons y l ih =>
     intro hy
     have h4 := ih (fun z hz => hy z (by simp [hz]))
     have h5 : y.data.toList.length ≤ K := hy y (by simp)
     simp only [List.map_cons, List.sum_cons, List.length_cons, List.length_nil] at h4 ⊢
     rw [Nat.add_mul]
     omega
   exact h3 r (fun y hy => h y (by simp [hy]))
  have e : ([10] : List UInt8).length = 1 := rfl
  have e2 : (x :: r).length = r.length + 1 := rfl
  rw [e, e2, Nat.add_mul]
  omega
theorem numB_le {n : Int} (h : inI n) : (numB n).size ≤ 21 := Lib.itoa_length_le n h.1 h.2
theorem wkName_le (n : Int) : (wkName n).size ≤ 9 := by
 unfold wkName
 split
 ·rename_i h
  obtain ⟨k, rfl⟩ : ∃ k : Nat, n = (k : Int) := ⟨n.toNat, by omega⟩
  rw [Int.toNat_natCast]
  have : ∀ k, k < 7 → (tDays.getD k ⟨#[]⟩).size ≤ 9 := by decide +kernel
  exact this k (by omega)
 ·exact Nat.zero_le _
theorem polB_le {p : Int} (h : 1 ≤ p ∧ p ≤ 3) : (polB p).size ≤ 11 := by
 unfold polB
 have : ∀ k, k < 3 → (tPols.getD k ⟨#[]⟩).size ≤ 11 := by decide +kernel
 exact this _ (by omega)
theorem frW_le {a : S39} (h : inA a) : (∀ x ∈ frW a, x.size ≤ 21) ∧ (frW a).length ≤ 5 := by
 obtain ⟨_, h1, h2, h3, h4⟩ := h
 have n1 := numB_le h1; have n2 := numB_le h2; have n3 := numB_le h3; have n4 := numB_le h4
 have n5 := wkName_le a.f4
 unfold frW
 split
 ·refine ⟨fun x hx => ?_, by simp⟩
  simp only [List.mem_cons, List.not_mem_nil, or_false] at hx
  rcases hx with rfl | rfl | rfl
  ·decide
  ·exact n1
  ·exact n2
 ·split
  ·refine ⟨fun x hx => ?_, by simp⟩
   simp only [List.mem_cons, List.not_mem_nil, or_false] at hx
   rcases hx with rfl | rfl
   ·decide
   ·exact n3
  ·refine ⟨fun x hx => ?_, by simp⟩
   simp only [List.mem_cons, List.not_mem_nil, or_false] at hx
   rcases hx with rfl | rfl | rfl | rfl | rfl
   ·decide
   ·omega
   ·exact n4
   ·exact n1
   ·exact n2
theorem seaL_le {x : S41} (h : okS x) : (seaL x).length ≤ 10000000 := by
 obtain ⟨h0, h1, h2, h3⟩ := h
 obtain ⟨f1, f2⟩ := frW_le h3
 have n1 := numB_le h1; have n2 := numB_le h2
 have h := lineL_le (seaW x ++ frW x.f3) 1000000 (fun y hy => by
  rcases List.mem_append.1 hy with hy | hy
  ·simp only [seaW, List.mem_cons, List.not_mem_nil, or_false] at hy
   rcases hy with rfl | rfl | rfl | rfl
   ·decide
   ·exact h0
   ·omega
   ·omega
  ·have := f1 y hy; omega)
 have e : (seaW x).length = 4 := rfl
 rw [List.length_append, e] at h
 have h4 : (4 + (frW x.f3).length) * (1000000 + 1) ≤ 9 * (1000000 + 1) := Nat.mul_le_mul_right _ (by omega)
 unfold seaL
 omega
theorem feaL_le {x : S43} (h : okF x) : (feaL x).length ≤ 10000000 := by
 obtain ⟨h0, h1, h2, h3⟩ := h
 obtain ⟨f1, f2⟩ := frW_le h3
 have n1 := numB_le h1; have n2 := polB_le h2
 have h := lineL_le (feaW x ++ frW x.f3) 1000000 (fun y hy => by
  rcases List.mem_append.1 hy with hy | hy
  ·simp only [feaW, List.mem_cons, List.not_mem_nil, or_false] at hy
   rcases hy with rfl | rfl | rfl | rfl
   ·decide
   ·exact h0
   ·omega
   ·omega
  ·have := f1 y hy; omega)
 have e : (feaW x).length = 4 := rfl
 rw [List.length_append, e] at h
 have h4 : (4 + (frW x.f3).length) * (1000000 + 1) ≤ 9 * (1000000 + 1) := Nat.mul_le_mul_right _ (by omega)
 unfold feaL
 omega
theorem flat_le {α : Type} (f : α → List UInt8) (K : Nat) : ∀ (l : List α), (∀ x ∈ l, (f x).length ≤ K) → (l.map f).flatten.length ≤ l.length * K
 | [], _ => by simp
 | x :: l, h => by
  have h1 := flat_le f K l (fun y hy => h y (by simp [hy]))
  have h2 := h x (by simp)
  simp only [List.map_cons, List.flatten_cons, List.length_append, List.length_cons]
  rw [Nat.add_mul]
  omega
theorem topL_le {fr : Int} (h : inI fr) : (topL fr).length ≤ 100 := by
 have n1 := numB_le h
 have h1 := lineL_le [⟨#[99, 97, 116, 97, 108, 111, 103, 117, 101]⟩] 9 (by intro x hx; rw [List.mem_singleton.1 hx]; decide)
 have h2 := lineL_le [⟨#[102, 114, 101, 101]⟩, numB fr] 21 (by
  intro x hx
  simp only [List.mem_cons, List.not_mem_nil, or_false] at hx
  rcases hx with rfl | rfl
  ·decide
  ·exact n1)
 unfold topL
 rw [List.length_append]
 simp only [List.length_cons, List.length_nil] at h1 h2
 omega
theorem R_words {W : World} {B : Nat} (ws : List ByteArray) (hB : B ≤ W.heap.size) (hn : ws.length ≤ 1000) : Kd.R Kd.string 9 (W.alloc (.cells (ws.map Value.string).toArray 9)) B (fun _ => True) (.slice (some ⟨W.heap.size, 0, none⟩) ws.length ws.length) ws := by
 refine ⟨fun _ _ => trivial, ws.map Value.string, ?_, ?_⟩
 ·have h2 := World.ownsRow_lit (base := B) (e := 9) (size := 1) W (ws.map Value.string).toArray ws.length hB (by unfold maxLen; omega) (by simp)
  show World.ownsRow _ B 9 1 _ ws.length _
  simpa using h2
 ·exact Kd.reps_scalar ws
structure PI (w W : World) (N : Nat) (c : Array Value) (l : List UInt8) (bs : List (Nat × Obj)) : Prop where
 P : IsP (N + 1) (N + 1) l W
 B : Below w.heap.size w W
 Z : w.heap.size = N
 C : W.heap[N]? = some (.cells c 26 (0, 0))
 H : ∀ q ∈ bs, W.heap[q.1]? = some q.2
 T : ∀ q ∈ bs, q.1 ≠ N + 1 ∧ ∃ cs t, q.2 = .cells cs t (0, 0) ∧ t ≠ 5 ∧ t ≠ 9
section
variable {w W : World} {N : Nat} {c : Array Value} {l : List UInt8} {bs : List (Nat × Obj)}
theorem PI.lt (h : PI w W N c l bs) : N + 1 < W.heap.size := h.P.lt
theorem PI.step {W' : World} (h : PI w W N c l bs) (hb : Below W.heap.size W W') : PI w W' N c l bs := ⟨h.P.below hb, below_step h.B hb, h.Z, blk_below h.C hb, fun q hq => blk_below (h.H q hq) hb, h.T⟩
theorem PI.drew (h : PI w W N c l bs) : PI w W.drew N c l bs := h.step (below_drew (Below.refl _ _))
theorem PI.alloc (h : PI w W N c l bs) (o : Obj) : PI w (W.alloc o) N c l bs := h.step (below_alloc (Below.refl _ _) o)
theorem PI.wrote {W' : World} {l' : List UInt8} (h : PI w W N c l bs) (hP : IsP (N + 1) (N + 1) l' W') (hB : Below (N + 1) W W') (hO : Oth (N + 1) W W') : PI w W' N c l' bs :=
 ⟨hP, h.B.trans (hB.mono (by have := h.Z; omega)), h.Z, (hB.block N (by omega)).trans h.C, fun q hq => by
  obtain ⟨h1, cs, t, h2, h3, h4⟩ := h.T q hq
  have h5 := h.H q hq
  rw [h2] at h5 ⊢
  exact hO q.1 cs t h1 h3 h4 h5, h.T⟩
theorem PI.less (h : PI w W N c l bs) : PI w W N c l [] := ⟨h.P, h.B, h.Z, h.C, fun q hq => by simp at hq, fun q hq => by simp at hq⟩
theorem PI.has {b : Nat} {o : Obj} (h : PI w W N c l bs) (hb : (b, o) ∈ bs) : W.heap[b]? = some o := h.H (b, o) hb
theorem PI.new (h : PI w W N c l []) (cs : Array Value) (t : TypeId) (h1 : t ≠ 5) (h2 : t ≠ 9) : PI w (W.alloc (.cells cs t)) N c l [(W.heap.size, .cells cs t)] :=
 ⟨(h.alloc _).P, (h.alloc _).B, h.Z, (h.alloc _).C, fun q hq => by obtain rfl := List.mem_singleton.1 hq; exact blk_new W _, fun q hq => by obtain rfl := List.mem_singleton.1 hq; exact ⟨Nat.ne_of_gt h.lt, cs, t, rfl, h1, h2⟩⟩
theorem PI.pol (h : PI w W N c l bs) (hT : Tabs w) (k : Nat) {v : ByteArray} (hv : tPols[k]? = some v) : W.cell? ⟨0, k, none⟩ = some (.string v) := by
 rw [(hT.below h.B).pols.cell k, List.getElem?_map, hv]
 rfl
theorem PI.num (h : PI w W N c l bs) (hT : Tabs w) (n : Int) (hn : inI n) : Calls Tryd.prog 30 #[.int .i64 n] W fun e w' => e = .returned (.string (numB n)) ∧ PI w w' N c l bs :=
 (num_any W n hn (hT.below h.B)).mono fun e w' ⟨he, hb⟩ => ⟨he, h.step hb⟩
theorem PI.line {ws : List ByteArray} {cs : Array Value} {n b : Nat} (h : PI w W N c l bs) (hz : W.heap.size = b) (hn : ws.length = n) (hn1 : n ≤ 1000) (hcs : (ws.map Value.string).toArray = cs) (hlen : l.length + (lineL ws).length ≤ 140737488355328) :
  Calls Tryd.prog 29 #[.pointer (some ⟨N + 1, 0, none⟩), .slice (some ⟨b, 0, none⟩) n n] (W.alloc (.cells cs 9)) fun e w' => e = .returned (.tuple #[]) ∧ PI w w' N c (l ++ lineL ws) bs := by
 subst hz; subst hn; subst hcs
 have h2 := h.alloc (.cells (ws.map Value.string).toArray 9)
 have hb := blk_new W (.cells (ws.map Value.string).toArray 9)
 refine (line_any (N + 1) (N + 1) _ l ws W.heap.size ws.length ws.length h2.P (Nat.le_of_lt h2.lt) rfl (Nat.le_refl _) (blk_lt hb) (fun j x hx => ?_) hlen (by omega)).mono fun e w' ⟨he, hP, hB, hO⟩ => ⟨he, h2.wrote hP hB hO⟩
 rw [blk_cell hb j]
 simp [hx]
theorem PI.anch {ws : List ByteArray} {cs : Array Value} {n b : Nat} (h : PI w W N c l bs) (hT : Tabs w) (a : S39) (ha : inA a) (hz : W.heap.size = b) (hn : ws.length = n) (hn1 : n ≤ 1000) (hcs : (ws.map Value.string).toArray = cs) (hlen : l.length + (lineL (ws ++ frW a)).length ≤ 140737488355328) :
  Calls Tryd.prog 31 #[.pointer (some ⟨N + 1, 0, none⟩), .agg #[.int .i64 a.f0, .int .i64 a.f1, .int .i64 a.f2, .int .i64 a.f3, .int .i64 a.f4, .int .i64 a.f5], .slice (some ⟨b, 0, none⟩) n n] (W.alloc (.cells cs 9)) fun e w' => e = .returned (.tuple #[]) ∧ PI w w' N c (l ++ lineL (ws ++ frW a)) bs := by
 subst hz; subst hn; subst hcs
 have h2 := h.alloc (.cells (ws.map Value.string).toArray 9)
 exact (anchored_any (N + 1) (N + 1) _ l ws _ a h2.P (Nat.le_of_lt h2.lt) ha (hT.below h2.B) (R_words ws (Nat.le_of_lt h.lt) hn1) hn1 hlen).mono fun e w' ⟨he, hP, hB, hO⟩ => ⟨he, h2.wrote hP hB hO⟩
end
theorem flat_take {α : Type} (f : α → List UInt8) (z : α) {l : List α} {i : Nat} (h : i < l.length) : ((l.take i).map f).flatten ++ f (l.getD i z) = ((l.take (i + 1)).map f).flatten := by
 rw [List.take_succ_eq_append_getElem h, List.map_append, List.flatten_append]
 have e : l.getD i z = l[i] := by simp [List.getD, List.getElem?_eq_getElem h]
 rw [e]
 simp only [List.map_cons, List.map_nil, List.flatten_cons, List.flatten_nil, List.append_nil]
theorem wNn (n : Nat) (h : n ≤ 4611686018427387904) : wrap64 ((n : Int) + 1) = ((n + 1 : Nat) : Int) := by unfold wrap64; omega
theorem getD_mem {α : Type} (z : α) {l : List α} {i : Nat} (h : i < l.length) : l.getD i z ∈ l := by
 simp [List.getD, List.getElem?_eq_getElem h]
theorem okS_le {fr : Int} {ls : List S41} {lf : List S43} (h : okC fr ls lf) {i : Nat} (hi : i < ls.length) {x : S41} (hx : x ∈ ls) : (topL fr ++ ((ls.take i).map seaL).flatten).length + (lineL (seaW x ++ frW x.f3)).length ≤ 140737488355328 := by
 obtain ⟨h1, h2, h3, h4, h5⟩ := h
 have a1 := topL_le h1
 have a2 := flat_le seaL 10000000 (ls.take i) (fun y hy => seaL_le (h4 y (List.mem_of_mem_take hy)))
 have a3 := seaL_le (h4 x hx)
 unfold seaL at a3
 have a4 : (ls.take i).length ≤ 1000000 := by rw [List.length_take]; omega
 have a5 : (ls.take i).length * 10000000 ≤ 1000000 * 10000000 := Nat.mul_le_mul_right _ a4
 rw [List.length_append]
 omega
theorem okF_le {fr : Int} {ls : List S41} {lf : List S43} (h : okC fr ls lf) {i : Nat} (hi : i < lf.length) {x : S43} (hx : x ∈ lf) : (topL fr ++ (ls.map seaL).flatten ++ ((lf.take i).map feaL).flatten).length + (lineL (feaW x ++ frW x.f3)).length ≤ 140737488355328 := by
 obtain ⟨h1, h2, h3, h4, h5⟩ := h
 have a1 := topL_le h1
 have a2 := flat_le seaL 10000000 ls (fun y hy => seaL_le (h4 y hy))
 have a6 := flat_le feaL 10000000 (lf.take i) (fun y hy => feaL_le (h5 y (List.mem_of_mem_take hy)))
 have a3 := feaL_le (h5 x hx)
 unfold feaL at a3
 have a4 : (lf.take i).length ≤ 1000000 := by rw [List.length_take]; omega
 have a5 : (lf.take i).length * 10000000 ≤ 1000000 * 10000000 := Nat.mul_le_mul_right _ a4
 have a7 : ls.length * 10000000 ≤ 1000000 * 10000000 := Nat.mul_le_mul_right _ h2
 rw [List.length_append, List.length_append]
 omega
theorem okE_le {fr : Int} {ls : List S41} {lf : List S43} (h : okC fr ls lf) : (topL fr ++ (ls.map seaL).flatten ++ (lf.map feaL).flatten).length + endL.length ≤ 140737488355328 := by
 obtain ⟨h1, h2, h3, h4, h5⟩ := h
 have a1 := topL_le h1
 have a2 := flat_le seaL 10000000 ls (fun y hy => seaL_le (h4 y hy))
 have a6 := flat_le feaL 10000000 lf (fun y hy => feaL_le (h5 y hy))
 have a5 : lf.length * 10000000 ≤ 1000000 * 10000000 := Nat.mul_le_mul_right _ h3
 have a7 : ls.length * 10000000 ≤ 1000000 * 10000000 := Nat.mul_le_mul_right _ h2
 have a8 : endL.length = 4 := by rfl
 rw [List.length_append, List.length_append]
 omega
theorem print_any (w : World) (fr : Int) (A1 : Option Addr) (c1 : Nat) (ls : List S41) (A2 : Option Addr) (c2 : Nat) (lf : List S43) (hT : Tabs w) (h1 : Kd.C k41 w A1 ls.length ls) (h2 : Kd.C k43 w A2 lf.length lf) (hok : okC fr ls lf) :
  Calls Tryd.prog 14 #[.agg #[.int .i64 fr, .slice A1 ls.length c1, .slice A2 lf.length c2]] w fun e w' => e = .returned (.string ⟨(catT fr ls lf).toArray⟩) ∧ Below w.heap.size w w' := by
 obtain ⟨N, hN⟩ : ∃ N, N = w.heap.size := ⟨_, rfl⟩
 obtain ⟨cc, hcc⟩ : ∃ cc : Array Value, cc = #[.int .i64 fr, .slice A1 ls.length c1, .slice A2 lf.length c2] := ⟨_, rfl⟩
 have hP : PI w ((w.alloc (.cells #[.int .i64 fr, .slice A1 ls.length c1, .slice A2 lf.length c2] 26)).alloc (.cells #[.pointer none, .slice none 0 0] 69)) N cc [] [] := by
  have hz : (w.alloc (.cells #[.int .i64 fr, .slice A1 ls.length c1, .slice A2 lf.length c2] 26)).heap.size = N + 1 := by rw [World.size_alloc, hN]
  refine ⟨.inl ⟨Nat.le_refl _, .slice none 0 0, ?_, World.ownsRow_nil _ _ _ _, by simp [Value.ownBlock]⟩, below_alloc (below_alloc (Below.refl _ _) _) _, hN.symm, ?_, fun q hq => by simp at hq, fun q hq => by simp at hq⟩
  ·have h := blk_new (w.alloc (.cells #[.int .i64 fr, .slice A1 ls.length c1, .slice A2 lf.length c2] 26)) (.cells #[.pointer none, .slice none 0 0] 69)
   rw [hz] at h
   exact h
  ·rw [hN, hcc]; exact blk_alloc (blk_new w _) _
 have HP := Aside0.mk hP
 have HN := Aside0.mk hN
 have HCC := Aside0.mk hcc
 have HT := Aside0.mk hT
 have H1 := Aside0.mk h1
 have H2 := Aside0.mk h2
 have HK := Aside0.mk hok
 clear hP hcc hT h1 h2 hok
 go_enter Tryd.func14, Tryd.ntmps14
 go_upto_region 2 with fail
 rw [← hN]
 generalize World.alloc _ _ = w1 at HP ⊢
 clear hN
 have HT1 := Aside0.mk (topL_le HK.out.1)
 go_wp2_with fail
 refine Calls.mono (HP.out.line (ws := [⟨#[99, 97, 116, 97, 108, 111, 103, 117, 101]⟩]) (n := 1) rfl rfl (by decide) rfl (by decide +kernel)) ?_
 rintro e w2 ⟨rfl, h⟩
 have HP2 := Aside0.mk h
 clear HP h
 have hc0 : w2.cell? ⟨N, 0, none⟩ = some (.int .i64 fr) := by rw [blk_cell HP2.out.C 0, HCC.out]; rfl
 go_wp2_with fail
 refine Calls.mono (HP2.out.num HT.out fr HK.out.1) ?_
 rintro e w3 ⟨rfl, h⟩
 have HP3 := Aside0.mk h
 clear HP2 h hc0
 go_wp2_with fail
 refine Calls.mono (HP3.out.line (ws := [⟨#[102, 114, 101, 101]⟩, numB fr]) (n := 2) rfl rfl (by decide) rfl (by have h := HT1.out; unfold topL at h; rw [List.length_append] at h; simp only [List.nil_append]; omega)) ?_
 rintro e w4 ⟨rfl, h⟩
 have HP4 := Aside0.mk (show PI w w4 N cc (topL fr) [] from h)
 clear HP3 h
 have hc1 : w4.cell? ⟨N, 1, none⟩ = some (.slice A1 ls.length c1) := by rw [blk_cell HP4.out.C 1, HCC.out]; rfl
 go_wp2_with fail
 go_loopg [18] ls.length (fun kq v18 w' => ∃ i : Nat, v18 = .int .i64 i ∧ Aside0 (i + kq = ls.length) ∧ Aside0 (PI w w' N cc (topL fr ++ ((ls.take i).map seaL).flatten) []))
 case atStart => exact ⟨0, rfl, ⟨by omega⟩, ⟨by simpa using HP4.out⟩⟩
 case round =>
 obtain ⟨i, rfl, HI, HP⟩ := hrel
 clear HP4 hc1
 by_cases hi : i < ls.length
 ·obtain ⟨k1, rfl⟩ : ∃ m, gk = m + 1 := ⟨gk - 1, by have := HI.out; omega⟩
  have d1 : decide ((i : Int) < (ls.length : Int)) = true := decide_eq_true (by omega)
  have d2 : decide (i < ls.length) = true := decide_eq_true hi
  have HLE := Aside0.mk (okS_le HK.out hi (getD_mem z41 hi))
  have HOK := Aside0.mk (HK.out.2.2.2.1 _ (getD_mem z41 hi))
  have HFT := Aside0.mk (flat_take seaL z41 hi)
  obtain ⟨ad, rfl, y0, y1, y2, y3, y4, y5, y6, y7, y8⟩ := at_T41 (Kd.C_below H1.out HP.out.B) (i : Int) (by omega) (by omega)
  have hx0 : rd_T41 ls (i : Int) = ls.getD i z41 := by unfold rd_T41; rw [Int.toNat_natCast]
  rw [hx0] at y0 y1 y2 y3 y4 y5 y6 y7 y8
  obtain ⟨x, hx⟩ : ∃ x, x = ls.getD i z41 := ⟨_, rfl⟩
  rw [← hx] at y0 y1 y2 y3 y4 y5 y6 y7 y8 HLE HOK HFT
  simp only [Int.toNat_natCast] at y0 y1 y2 y3 y4 y5 y6 y7 y8
  obtain ⟨⟨e0, e1, e2, e3, e4, e5, e6, e7, e8⟩, f0, f1, f2, f3, f4, f5, f6, f7, f8⟩ := Q.nine (blk_new wr (.cells #[.string ⟨#[]⟩, .int .i64 0, .int .i64 0, .int .i64 0, .int .i64 0, .int .i64 0, .int .i64 0, .int .i64 0, .int .i64 0] 41))
  have HX1 := Aside0.mk HOK.out.2.1
  have HX2 := Aside0.mk HOK.out.2.2.1
  have HX3 := Aside0.mk HOK.out.2.2.2
  clear hx hx0 HOK
  go_upto_region 7 with fail
  have hQ := HP.out.new #[.string x.f0, .int .i64 x.f1, .int .i64 x.f2, .int .i64 x.f3.f0, .int .i64 x.f3.f1, .int .i64 x.f3.f2, .int .i64 x.f3.f3, .int .i64 x.f3.f4, .int .i64 x.f3.f5] 41 (by decide) (by decide)
  generalize World.alloc wr _ = wq at hQ ⊢
  generalize wr.heap.size = q at hQ ⊢
  have HQ := Aside0.mk hQ
  clear HP hQ y0 y1 y2 y3 y4 y5 y6 y7 y8 e0 e1 e2 e3 e4 e5 e6 e7 e8 f0 f1 f2 f3 f4 f5 f6 f7 f8
  go_region_held3 (fun w' => (w'.cell? ⟨q, 0, none⟩ = some (.string x.f0) ∧ w'.cell? ⟨q, 1, none⟩ = some (.int .i64 x.f1) ∧ w'.cell? ⟨q, 2, none⟩ = some (.int .i64 x.f2) ∧ w'.cell? ⟨q, 3, none⟩ = some (.int .i64 x.f3.f0) ∧ w'.cell? ⟨q, 4, none⟩ = some (.int .i64 x.f3.f1) ∧ w'.cell? ⟨q, 5, none⟩ = some (.int .i64 x.f3.f2) ∧ w'.cell? ⟨q, 6, none⟩ = some (.int .i64 x.f3.f3) ∧ w'.cell? ⟨q, 7, none⟩ = some (.int .i64 x.f3.f4) ∧ w'.cell? ⟨q, 8, none⟩ = some (.int .i64 x.f3.f5))) (first | (with_reducible exact (Q.nine (HQ.out.has (List.Mem.head _))).1) | (with_reducible exact (Q.nine (HQ.out.drew.has (List.Mem.head _))).1) | (with_reducible exact (Q.nine ((HQ.out.alloc _).has (List.Mem.head _))).1) | go_keep) (first | (go_at_call 30; (first | (with_reducible refine Calls.mono (HQ.out.drew.num HT.out x.f1 HX1.out) ?_) | (with_reducible refine Calls.mono (HQ.out.num HT.out x.f2 HX2.out) ?_)); rintro e w5 ⟨rfl, h⟩; have n0_ := Aside0.mk h; clear HQ h; have HQ := n0_; clear n0_) | (go_at_call 31; (with_reducible refine Calls.mono (HQ.out.anch (ws := seaW x) HT.out x.f3 HX3.out rfl rfl (by decide) rfl HLE.out) ?_); rintro e w5 ⟨rfl, h⟩; have n0_ := Aside0.mk h; clear HQ h; have HQ := n0_; clear n0_))
  go_wp2_with fail
  have hil : ls.length ≤ 1000000 := HK.out.2.1
  go_roundg k1
  case measure => omega
  case rel =>
   refine ⟨i + 1, (by first | rw [i64_w, wNn i (by omega)] | rw [wNn i (by omega)] | rfl | (simp; done)), ⟨by have := HI.out; omega⟩, ⟨?_⟩⟩
   have h := HQ.out.less
   rw [List.append_assoc, show lineL (seaW x ++ frW x.f3) = seaL x from rfl, HFT.out] at h
   exact h
 ·obtain rfl : i = ls.length := by have := HI.out; omega
  have HP5 := Aside0.mk (show PI w wr N cc (topL fr ++ (ls.map seaL).flatten) [] from by have h := HP.out; rw [List.take_length] at h; exact h)
  clear HP HI hi
  obtain ⟨w6, rfl⟩ : ∃ W, W = wr := ⟨wr, rfl⟩
  have hc2 : w6.cell? ⟨N, 2, none⟩ = some (.slice A2 lf.length c2) := by rw [blk_cell HP5.out.C 2, HCC.out]; rfl
  have hil : lf.length ≤ 1000000 := HK.out.2.2.1
  go_wp2_with fail
  go_loopg [38] lf.length (fun kq v38 w' => ∃ i : Nat, v38 = .int .i64 i ∧ Aside0 (i + kq = lf.length) ∧ Aside0 (PI w w' N cc (topL fr ++ (ls.map seaL).flatten ++ ((lf.take i).map feaL).flatten) []))
  case atStart => exact ⟨0, rfl, ⟨by omega⟩, ⟨by simpa using HP5.out⟩⟩
  case round =>
  obtain ⟨i, rfl, HI, HP⟩ := hrel
  clear HP5 hc2
  by_cases hi : i < lf.length
  ·obtain ⟨k1, rfl⟩ : ∃ m, gk = m + 1 := ⟨gk - 1, by have := HI.out; omega⟩
   have d1 : decide ((i : Int) < (lf.length : Int)) = true := decide_eq_true (by omega)
   have d2 : decide (i < lf.length) = true := decide_eq_true hi
   have HLE := Aside0.mk (okF_le HK.out hi (getD_mem z43 hi))
   have HOK := Aside0.mk (HK.out.2.2.2.2 _ (getD_mem z43 hi))
   have HFT := Aside0.mk (flat_take feaL z43 hi)
   obtain ⟨ad, rfl, y0, y1, y2, y3, y4, y5, y6, y7, y8⟩ := at_T43 (Kd.C_below H2.out HP.out.B) (i : Int) (by omega) (by omega)
   have hx0 : rd_T43 lf (i : Int) = lf.getD i z43 := by unfold rd_T43; rw [Int.toNat_natCast]
   rw [hx0] at y0 y1 y2 y3 y4 y5 y6 y7 y8
   obtain ⟨x, hx⟩ : ∃ x, x = lf.getD i z43 := ⟨_, rfl⟩
   rw [← hx] at y0 y1 y2 y3 y4 y5 y6 y7 y8 HLE HOK HFT
   simp only [Int.toNat_natCast] at y0 y1 y2 y3 y4 y5 y6 y7 y8
   obtain ⟨⟨e0, e1, e2, e3, e4, e5, e6, e7, e8⟩, f0, f1, f2, f3, f4, f5, f6, f7, f8⟩ := Q.nine (blk_new wr (.cells #[.string ⟨#[]⟩, .int .i64 0, .int .i64 0, .int .i64 0, .int .i64 0, .int .i64 0, .int .i64 0, .int .i64 0, .int .i64 0] 43))
   have HX1 := Aside0.mk HOK.out.2.1
   have HX3 := Aside0.mk HOK.out.2.2.2
   have hp := HOK.out.2.2.1
   clear hx hx0 HOK
   rcases (show x.f2 = 1 ∨ x.f2 = 2 ∨ x.f2 = 3 from by omega) with hp | hp | hp
   ·have hw0 : IntKind.i64.wrap 0 = 0 := by rw [IntKind.wrap_i64]; rfl
    have e : feaW x = [⟨#[102, 101, 97, 115, 116]⟩, x.f0, numB x.f1, ⟨#[116, 114, 97, 110, 115, 102, 101, 114]⟩] := by unfold feaW; rw [hp]; rfl
    rw [e] at HLE
    rw [show feaL x = lineL ([⟨#[102, 101, 97, 115, 116]⟩, x.f0, numB x.f1, ⟨#[116, 114, 97, 110, 115, 102, 101, 114]⟩] ++ frW x.f3) from by unfold feaL; rw [e]] at HFT
    rw [hp] at y2
    clear e hp
    go_upto_region 12 with fail
    have hQ := HP.out.new #[.string x.f0, .int .i64 x.f1, .int .i64 1, .int .i64 x.f3.f0, .int .i64 x.f3.f1, .int .i64 x.f3.f2, .int .i64 x.f3.f3, .int .i64 x.f3.f4, .int .i64 x.f3.f5] 43 (by decide) (by decide)
    generalize World.alloc wr _ = wq at hQ ⊢
    generalize wr.heap.size = q at hQ ⊢
    have HQ := Aside0.mk hQ
    clear HP hQ y0 y1 y2 y3 y4 y5 y6 y7 y8 e0 e1 e2 e3 e4 e5 e6 e7 e8 f0 f1 f2 f3 f4 f5 f6 f7 f8
    go_region_held3 (fun w' => (w'.cell? ⟨q, 0, none⟩ = some (.string x.f0) ∧ w'.cell? ⟨q, 1, none⟩ = some (.int .i64 x.f1) ∧ w'.cell? ⟨q, 2, none⟩ = some (.int .i64 1) ∧ w'.cell? ⟨q, 3, none⟩ = some (.int .i64 x.f3.f0) ∧ w'.cell? ⟨q, 4, none⟩ = some (.int .i64 x.f3.f1) ∧ w'.cell? ⟨q, 5, none⟩ = some (.int .i64 x.f3.f2) ∧ w'.cell? ⟨q, 6, none⟩ = some (.int .i64 x.f3.f3) ∧ w'.cell? ⟨q, 7, none⟩ = some (.int .i64 x.f3.f4) ∧ w'.cell? ⟨q, 8, none⟩ = some (.int .i64 x.f3.f5)) ∧ w'.cell? ⟨0, 0, none⟩ = some (.string ⟨#[116, 114, 97, 110, 115, 102, 101, 114]⟩)) (first | (with_reducible exact ⟨(Q.nine (HQ.out.has (List.Mem.head _))).1, HQ.out.pol HT.out 0 rfl⟩) | (with_reducible exact ⟨(Q.nine (HQ.out.drew.has (List.Mem.head _))).1, HQ.out.drew.pol HT.out 0 rfl⟩) | (with_reducible exact ⟨(Q.nine ((HQ.out.alloc _).has (List.Mem.head _))).1, (HQ.out.alloc _).pol HT.out 0 rfl⟩) | go_keep) (first | (go_at_call 30; (with_reducible refine Calls.mono (HQ.out.drew.num HT.out x.f1 HX1.out) ?_); rintro e w5 ⟨rfl, h⟩; have n0_ := Aside0.mk h; clear HQ h; have HQ := n0_; clear n0_) | (go_at_call 31; (with_reducible refine Calls.mono (HQ.out.anch (ws := [⟨#[102, 101, 97, 115, 116]⟩, x.f0, numB x.f1, ⟨#[116, 114, 97, 110, 115, 102, 101, 114]⟩]) HT.out x.f3 HX3.out rfl rfl (by decide) rfl HLE.out) ?_); rintro e w5 ⟨rfl, h⟩; have n0_ := Aside0.mk h; clear HQ h; have HQ := n0_; clear n0_))
    all_goals (go_wp2_with fail; go_roundg k1)
    all_goals (first | omega | (refine ⟨i + 1, (by first | rw [i64_w, wNn i (by omega)] | rw [wNn i (by omega)] | rfl | (simp; done)), ⟨by have := HI.out; omega⟩, ⟨?_⟩⟩; have h := HQ.out.less; rw [List.append_assoc, HFT.out] at h; exact h))
   ·have hw0 : IntKind.i64.wrap 1 = 1 := by rw [IntKind.wrap_i64]; rfl
    have e : feaW x = [⟨#[102, 101, 97, 115, 116]⟩, x.f0, numB x.f1, ⟨#[99, 111, 109, 109, 101, 109, 111, 114, 97, 116, 101]⟩] := by unfold feaW; rw [hp]; rfl
    rw [e] at HLE
    rw [show feaL x = lineL ([⟨#[102, 101, 97, 115, 116]⟩, x.f0, numB x.f1, ⟨#[99, 111, 109, 109, 101, 109, 111, 114, 97, 116, 101]⟩] ++ frW x.f3) from by unfold feaL; rw [e]] at HFT
    rw [hp] at y2
    clear e hp
    go_upto_region 12 with fail
    have hQ := HP.out.new #[.string x.f0, .int .i64 x.f1, .int .i64 2, .int .i64 x.f3.f0, .int .i64 x.f3.f1, .int .i64 x.f3.f2, .int .i64 x.f3.f3, .int .i64 x.f3.f4, .int .i64 x.f3.f5] 43 (by decide) (by decide)
    generalize World.alloc wr _ = wq at hQ ⊢
    generalize wr.heap.size = q at hQ ⊢
    have HQ := Aside0.mk hQ
    clear HP hQ y0 y1 y2 y3 y4 y5 y6 y7 y8 e0 e1 e2 e3 e4 e5 e6 e7 e8 f0 f1 f2 f3 f4 f5 f6 f7 f8
    go_region_held3 (fun w' => (w'.cell? ⟨q, 0, none⟩ = some (.string x.f0) ∧ w'.cell? ⟨q, 1, none⟩ = some (.int .i64 x.f1) ∧ w'.cell? ⟨q, 2, none⟩ = some (.int .i64 2) ∧ w'.cell? ⟨q, 3, none⟩ = some (.int .i64 x.f3.f0) ∧ w'.cell? ⟨q, 4, none⟩ = some (.int .i64 x.f3.f1) ∧ w'.cell? ⟨q, 5, none⟩ = some (.int .i64 x.f3.f2) ∧ w'.cell? ⟨q, 6, none⟩ = some (.int .i64 x.f3.f3) ∧ w'.cell? ⟨q, 7, none⟩ = some (.int .i64 x.f3.f4) ∧ w'.cell? ⟨q, 8, none⟩ = some (.int .i64 x.f3.f5)) ∧ w'.cell? ⟨0, 1, none⟩ = some (.string ⟨#[99, 111, 109, 109, 101, 109, 111, 114, 97, 116, 101]⟩)) (first | (with_reducible exact ⟨(Q.nine (HQ.out.has (List.Mem.head _))).1, HQ.out.pol HT.out 1 rfl⟩) | (with_reducible exact ⟨(Q.nine (HQ.out.drew.has (List.Mem.head _))).1, HQ.out.drew.pol HT.out 1 rfl⟩) | (with_reducible exact ⟨(Q.nine ((HQ.out.alloc _).has (List.Mem.head _))).1, (HQ.out.alloc _).pol HT.out 1 rfl⟩) | go_keep) (first | (go_at_call 30; (with_reducible refine Calls.mono (HQ.out.drew.num HT.out x.f1 HX1.out) ?_); rintro e w5 ⟨rfl, h⟩; have n0_ := Aside0.mk h; clear HQ h; have HQ := n0_; clear n0_) | (go_at_call 31; (with_reducible refine Calls.mono (HQ.out.anch (ws := [⟨#[102, 101, 97, 115, 116]⟩, x.f0, numB x.f1, ⟨#[99, 111, 109, 109, 101, 109, 111, 114, 97, 116, 101]⟩]) HT.out x.f3 HX3.out rfl rfl (by decide) rfl HLE.out) ?_); rintro e w5 ⟨rfl, h⟩; have n0_ := Aside0.mk h; clear HQ h; have HQ := n0_; clear n0_))
    all_goals (go_wp2_with fail; go_roundg k1)
    all_goals (first | omega | (refine ⟨i + 1, (by first | rw [i64_w, wNn i (by omega)] | rw [wNn i (by omega)] | rfl | (simp; done)), ⟨by have := HI.out; omega⟩, ⟨?_⟩⟩; have h := HQ.out.less; rw [List.append_assoc, HFT.out] at h; exact h))
   ·have hw0 : IntKind.i64.wrap 2 = 2 := by rw [IntKind.wrap_i64]; rfl
    have e : feaW x = [⟨#[102, 101, 97, 115, 116]⟩, x.f0, numB x.f1, ⟨#[111, 109, 105, 116]⟩] := by unfold feaW; rw [hp]; rfl
    rw [e] at HLE
    rw [show feaL x = lineL ([⟨#[102, 101, 97, 115, 116]⟩, x.f0, numB x.f1, ⟨#[111, 109, 105, 116]⟩] ++ frW x.f3) from by unfold feaL; rw [e]] at HFT
    rw [hp] at y2
    clear e hp
    go_upto_region 12 with fail
    have hQ := HP.out.new #[.string x.f0, .int .i64 x.f1, .int .i64 3, .int .i64 x.f3.f0, .int .i64 x.f3.f1, .int .i64 x.f3.f2, .int .i64 x.f3.f3, .int .i64 x.f3.f4, .int .i64 x.f3.f5] 43 (by decide) (by decide)
    generalize World.alloc wr _ = wq at hQ ⊢
    generalize wr.heap.size = q at hQ ⊢
    have HQ := Aside0.mk hQ
    clear HP hQ y0 y1 y2 y3 y4 y5 y6 y7 y8 e0 e1 e2 e3 e4 e5 e6 e7 e8 f0 f1 f2 f3 f4 f5 f6 f7 f8
    go_region_held3 (fun w' => (w'.cell? ⟨q, 0, none⟩ = some (.string x.f0) ∧ w'.cell? ⟨q, 1, none⟩ = some (.int .i64 x.f1) ∧ w'.cell? ⟨q, 2, none⟩ = some (.int .i64 3) ∧ w'.cell? ⟨q, 3, none⟩ = some (.int .i64 x.f3.f0) ∧ w'.cell? ⟨q, 4, none⟩ = some (.int .i64 x.f3.f1) ∧ w'.cell? ⟨q, 5, none⟩ = some (.int .i64 x.f3.f2) ∧ w'.cell? ⟨q, 6, none⟩ = some (.int .i64 x.f3.f3) ∧ w'.cell? ⟨q, 7, none⟩ = some (.int .i64 x.f3.f4) ∧ w'.cell? ⟨q, 8, none⟩ = some (.int .i64 x.f3.f5)) ∧ w'.cell? ⟨0, 2, none⟩ = some (.string ⟨#[111, 109, 105, 116]⟩)) (first | (with_reducible exact ⟨(Q.nine (HQ.out.has (List.Mem.head _))).1, HQ.out.pol HT.out 2 rfl⟩) | (with_reducible exact ⟨(Q.nine (HQ.out.drew.has (List.Mem.head _))).1, HQ.out.drew.pol HT.out 2 rfl⟩) | (with_reducible exact ⟨(Q.nine ((HQ.out.alloc _).has (List.Mem.head _))).1, (HQ.out.alloc _).pol HT.out 2 rfl⟩) | go_keep) (first | (go_at_call 30; (with_reducible refine Calls.mono (HQ.out.drew.num HT.out x.f1 HX1.out) ?_); rintro e w5 ⟨rfl, h⟩; have n0_ := Aside0.mk h; clear HQ h; have HQ := n0_; clear n0_) | (go_at_call 31; (with_reducible refine Calls.mono (HQ.out.anch (ws := [⟨#[102, 101, 97, 115, 116]⟩, x.f0, numB x.f1, ⟨#[111, 109, 105, 116]⟩]) HT.out x.f3 HX3.out rfl rfl (by decide) rfl HLE.out) ?_); rintro e w5 ⟨rfl, h⟩; have n0_ := Aside0.mk h; clear HQ h; have HQ := n0_; clear n0_))
    all_goals (go_wp2_with fail; go_roundg k1)
    all_goals (first | omega | (refine ⟨i + 1, (by first | rw [i64_w, wNn i (by omega)] | rw [wNn i (by omega)] | rfl | (simp; done)), ⟨by have := HI.out; omega⟩, ⟨?_⟩⟩; have h := HQ.out.less; rw [List.append_assoc, HFT.out] at h; exact h))
  ·obtain rfl : i = lf.length := by have := HI.out; omega
   have HP6 := Aside0.mk (show PI w wr N cc (topL fr ++ (ls.map seaL).flatten ++ (lf.map feaL).flatten) [] from by have h := HP.out; rw [List.take_length] at h; exact h)
   clear HP HI hi
   go_wp2_with fail
   refine Calls.mono (HP6.out.line (ws := [⟨#[101, 110, 100]⟩]) (n := 1) rfl rfl (by decide) rfl (okE_le HK.out)) ?_
   rintro e w7 ⟨rfl, h⟩
   have HP7 := Aside0.mk (show PI w w7 N cc (catT fr ls lf) [] from h)
   clear HP6 h
   have HS := Aside0.mk (bld_string (N + 1) (N + 1) (catT fr ls lf) w7 HP7.out.P (by unfold catT endL lineL; simp))
   go_wp2_with fail
   refine Calls.mono HS.out ?_
   rintro e w8 ⟨rfl, h⟩
   have HB8 := Aside0.mk (HP7.out.B.trans (h.mono (by have := HP7.out.Z; omega)))
   clear HS h
   go_wp2_with fail
   go_ret
   exact ⟨rfl, HB8.out⟩
theorem cattext_Print.calls (a0_0 : Int) (A0_1 : Option Addr) (c0_1 : Nat) (l0_1 : List S41) (A0_2 : Option Addr) (c0_2 : Nat) (l0_2 : List S43) (r : ByteArray) (w : World) (hr0_1 : Kd.C k41 w A0_1 l0_1.length l0_1) (hc0_1 : l0_1.length ≤ c0_1) (hr0_2 : Kd.C k43 w A0_2 l0_2.length l0_2) (hc0_2 : l0_2.length ≤ c0_2) (hT : Tabs w) (h : cattext_Print.f a0_0 l0_1 l0_2 = some r) :
  Calls Tryd.prog 14 #[.agg #[.int .i64 a0_0, .slice A0_1 l0_1.length c0_1, .slice A0_2 l0_2.length c0_2]] w fun e w' => e = .returned (.string r) ∧ Below w.heap.size w w' := by
 unfold cattext_Print.f at h
 split at h
 ·rename_i hok
  obtain rfl := Option.some.inj h
  exact print_any w a0_0 A0_1 c0_1 l0_1 A0_2 c0_2 l0_2 hT hr0_1 hr0_2 hok
 ·exact absurd h (by simp)
end Go.Proofs.YtlfokdbnbmebiaaDoor.Q
end
section
namespace Go.Proofs.YtlfokdbnbmebiaaDoor.Q
open Go.RowKit Go.Proofs.YtlfokdbnbmebiaaDoorW.PrintWords Go.Proofs.YtlfokdbnbmebiaaDoorW.PrintLast Go.Proofs.YtlfokdbnbmebiaaDoorW.PrintMore
attribute [local go_sem] max2_int min2_int max_two min_two max_three min_three max_four min_four
section
attribute [local go_sem high] eqA41 eqA43
def computuslaw26_awake.f  : Option (Bool) := (cattext_Parse.f (⟨#[99, 97, 116, 97, 108, 111, 103, 117, 101, 10, 102, 114, 101, 101, 32, 55, 10, 115, 101, 97, 115, 111, 110, 32, 115, 32, 49, 32, 50, 32, 110, 116, 104, 32, 109, 111, 110, 100, 97, 121, 32, 45, 49, 32, 53, 32, 51, 49, 10, 102, 101, 97, 115, 116, 32, 102, 32, 51, 32, 111, 109, 105, 116, 32, 101, 97, 115, 116, 101, 114, 32, 52, 57, 10, 101, 110, 100, 10]⟩ : ByteArray)).bind fun bt102 => ((cattext_Parse.f (⟨#[99, 97, 116, 97, 108, 111, 103, 117, 101, 10, 102, 114, 101, 101, 32, 48, 48, 10, 101, 110, 100, 10]⟩ : ByteArray)).bind fun bt112 => ((cattext_Parse.f (⟨#[99, 97, 116, 97, 108, 111, 103, 117, 101, 10, 102, 114, 101, 101, 32, 48, 10, 101, 110, 100]⟩ : ByteArray)).bind fun bt122 => (if (bt102.2.1.length : Int) = 1 then (if (bt102.2.2.1.length : Int) = 1 then ((cattext_Print.f 0 ([] : List (S41)) ([] : List (S43))).bind fun t132 => (if t132.toList = ([99, 97, 116, 97, 108, 111, 103, 117, 101, 10, 102, 114, 101, 101, 32, 48, 10, 101, 110, 100, 10] : List UInt8) then (if bt102.1 = 7 then (if bt102.2.2.2.1 = 0 then (if bt102.2.2.2.2 = 0 then (if 0 < (bt102.2.1.length : Int) then (if ((((rd_T41 bt102.2.1 0).f0).toList) == ([115] : List UInt8) && (((rd_T41 bt102.2.1 0).f1) == 1 && (((rd_T41 bt102.2.1 0).f2) == 2 && ((((rd_T41 bt102.2.1 0).f3.f0) == 3 && (((rd_T41 bt102.2.1 0).f3.f1) == 5 && (((rd_T41 bt102.2.1 0).f3.f2) == 31 && (((rd_T41 bt102.2.1 0).f3.f3) == 0 && (((rd_T41 bt102.2.1 0).f3.f4) == 1 && (((rd_T41 bt102.2.1 0).f3.f5) == (-1))))))))))) = true then (if 0 < (bt102.2.2.1.length : Int) then (if ((((rd_T43 bt102.2.2.1 0).f0).toList) == ([102] : List UInt8) && (((rd_T43 bt102.2.2.1 0).f1) == 3 && (((rd_T43 bt102.2.2.1 0).f2) == 3 && ((((rd_T43 bt102.2.2.1 0).f3.f0) == 2 && (((rd_T43 bt102.2.2.1 0).f3.f1) == 0 && (((rd_T43 bt102.2.2.1 0).f3.f2) == 0 && (((rd_T43 bt102.2.2.1 0).f3.f3) == 49 && (((rd_T43 bt102.2.2.1 0).f3.f4) == 0 && (((rd_T43 bt102.2.2.1 0).f3.f5) == 0)))))))))) = true then (if bt112.2.2.2.1 = 16 then (if bt112.2.2.2.2 = 6 then (if bt122.2.2.2.1 = 20 then (some (bt122.2.2.2.2 == 6)) else (none)) else (none)) else (none)) else (none)) else (none)) else (none)) else (none)) else (none)) else (none)) else (none)) else (none))) else (none)) else (none))))
theorem computuslaw26_awake.calls  (r : Bool) (w : World) (hT : Tabs w) (h : computuslaw26_awake.f  = some r) :
  Calls Tryd.prog 8 #[] w fun e w' => e = .returned (.bool r) ∧ Below w.heap.size w w' := by
 have HTAB := am_ hT
 clear hT
 have hu26 := Tryd.underlying26
 have hu41 := Tryd.underlying41
 have hu39 := Tryd.underlying39
 have hu43 := Tryd.underlying43
 have HB := am_ (Below.refl w.heap.size w)
 have H := h
 clear h
 unfold computuslaw26_awake.f at H
 obtain ⟨⟨t102, t103, t106, t109, t110⟩, A1, H⟩ := bs_ H
 dsimp only at H
 obtain ⟨⟨t112, t113, t116, t119, t120⟩, A2, H⟩ := bs_ H
 dsimp only at H
 obtain ⟨⟨t122, t123, t126, t129, t130⟩, A3, H⟩ := bs_ H
 dsimp only at H
 by_cases c4 : (t103.length : Int) = 1
 rotate_left
 ·rw [if_neg c4] at H
  exact absurd H (by simp)
 rw [if_pos c4] at H
 have c4b0 : ((t103.length : Int) == 1) = true := beq_iff_eq.mpr c4
 have c4b1 : ((t103.length : Int) != 1) = false := bne_eq_false_iff_eq.mpr c4
 clear c4
 by_cases c5 : (t106.length : Int) = 1
 rotate_left
 ·rw [if_neg c5] at H
  exact absurd H (by simp)
 rw [if_pos c5] at H
 have c5b0 : ((t106.length : Int) == 1) = true := beq_iff_eq.mpr c5
 have c5b1 : ((t106.length : Int) != 1) = false := bne_eq_false_iff_eq.mpr c5
 clear c5
 obtain ⟨t132, A6, H⟩ := bs_ H
 by_cases c7 : t132.toList = ([99, 97, 116, 97, 108, 111, 103, 117, 101, 10, 102, 114, 101, 101, 32, 48, 10, 101, 110, 100, 10] : List UInt8)
 rotate_left
 ·rw [if_neg c7] at H
  exact absurd H (by simp)
 rw [if_pos c7] at H
 have c7b0 : (t132.toList == ([99, 97, 116, 97, 108, 111, 103, 117, 101, 10, 102, 114, 101, 101, 32, 48, 10, 101, 110, 100, 10] : List UInt8)) = true := beq_iff_eq.mpr c7
 have c7b1 : (t132.toList != ([99, 97, 116, 97, 108, 111, 103, 117, 101, 10, 102, 114, 101, 101, 32, 48, 10, 101, 110, 100, 10] : List UInt8)) = false := bne_eq_false_iff_eq.mpr c7
 clear c7
 by_cases c8 : t102 = 7
 rotate_left
 ·rw [if_neg c8] at H
  exact absurd H (by simp)
 rw [if_pos c8] at H
 have c8b0 : (t102 == 7) = true := beq_iff_eq.mpr c8
 have c8b1 : (t102 != 7) = false := bne_eq_false_iff_eq.mpr c8
 clear c8
 by_cases c9 : t109 = 0
 rotate_left
 ·rw [if_neg c9] at H
  exact absurd H (by simp)
 rw [if_pos c9] at H
 have c9b0 : (t109 == 0) = true := beq_iff_eq.mpr c9
 have c9b1 : (t109 != 0) = false := bne_eq_false_iff_eq.mpr c9
 clear c9
 by_cases c10 : t110 = 0
 rotate_left
 ·rw [if_neg c10] at H
  exact absurd H (by simp)
 rw [if_pos c10] at H
 have c10b0 : (t110 == 0) = true := beq_iff_eq.mpr c10
 have c10b1 : (t110 != 0) = false := bne_eq_false_iff_eq.mpr c10
 clear c10
 by_cases c11 : 0 < (t103.length : Int)
 rotate_left
 ·rw [if_neg c11] at H
  exact absurd H (by simp)
 rw [if_pos c11] at H
 have c11b0 : decide (0 < (t103.length : Int)) = true := decide_eq_true c11
 have c11b1 : decide (0 < t103.length) = true := decide_eq_true (by omega)
 (try (have c11b6 : 0 < t103.length := of_decide_eq_true c11b1))
 clear c11
 by_cases c12 : ((((rd_T41 t103 0).f0).toList) == ([115] : List UInt8) && (((rd_T41 t103 0).f1) == 1 && (((rd_T41 t103 0).f2) == 2 && ((((rd_T41 t103 0).f3.f0) == 3 && (((rd_T41 t103 0).f3.f1) == 5 && (((rd_T41 t103 0).f3.f2) == 31 && (((rd_T41 t103 0).f3.f3) == 0 && (((rd_T41 t103 0).f3.f4) == 1 && (((rd_T41 t103 0).f3.f5) == (-1))))))))))) = true
 rotate_left
 ·rw [if_neg c12] at H
  exact absurd H (by simp)
 rw [if_pos c12] at H
 have c12b0 : ((((rd_T41 t103 0).f0).toList) == ([115] : List UInt8) && (((rd_T41 t103 0).f1) == 1 && (((rd_T41 t103 0).f2) == 2 && ((((rd_T41 t103 0).f3.f0) == 3 && (((rd_T41 t103 0).f3.f1) == 5 && (((rd_T41 t103 0).f3.f2) == 31 && (((rd_T41 t103 0).f3.f3) == 0 && (((rd_T41 t103 0).f3.f4) == 1 && (((rd_T41 t103 0).f3.f5) == (-1))))))))))) = true := c12
 (try (have c12b1 : decide ((((rd_T41 t103 0).f0).toList) = ([115] : List UInt8) && (((rd_T41 t103 0).f1) == 1 && (((rd_T41 t103 0).f2) == 2 && ((((rd_T41 t103 0).f3.f0) == 3 && (((rd_T41 t103 0).f3.f1) == 5 && (((rd_T41 t103 0).f3.f2) == 31 && (((rd_T41 t103 0).f3.f3) == 0 && (((rd_T41 t103 0).f3.f4) == 1 && (((rd_T41 t103 0).f3.f5) == (-1))))))))))) = true := by simpa using c12))
 (try (have c12b2 : ((((rd_T41 t103 0).f0).toList) == ([115] : List UInt8) && (((rd_T41 t103 0).f1) == 1 && (((rd_T41 t103 0).f2) == 2 && ((((rd_T41 t103 0).f3.f0) == 3 && (((rd_T41 t103 0).f3.f1) == 5 && (((rd_T41 t103 0).f3.f2) == 31 && (((rd_T41 t103 0).f3.f3) == 0 && (((rd_T41 t103 0).f3.f4) == 1 && (((rd_T41 t103 0).f3.f5) == (-1))))))))))) = true := by simpa using c12))
 clear c12
 by_cases c13 : 0 < (t106.length : Int)
 rotate_left
 ·rw [if_neg c13] at H
  exact absurd H (by simp)
 rw [if_pos c13] at H
 have c13b0 : decide (0 < (t106.length : Int)) = true := decide_eq_true c13
 have c13b1 : decide (0 < t106.length) = true := decide_eq_true (by omega)
 (try (have c13b6 : 0 < t106.length := of_decide_eq_true c13b1))
 clear c13
 by_cases c14 : ((((rd_T43 t106 0).f0).toList) == ([102] : List UInt8) && (((rd_T43 t106 0).f1) == 3 && (((rd_T43 t106 0).f2) == 3 && ((((rd_T43 t106 0).f3.f0) == 2 && (((rd_T43 t106 0).f3.f1) == 0 && (((rd_T43 t106 0).f3.f2) == 0 && (((rd_T43 t106 0).f3.f3) == 49 && (((rd_T43 t106 0).f3.f4) == 0 && (((rd_T43 t106 0).f3.f5) == 0)))))))))) = true
 rotate_left
 ·rw [if_neg c14] at H
  exact absurd H (by simp)
 rw [if_pos c14] at H
 have c14b0 : ((((rd_T43 t106 0).f0).toList) == ([102] : List UInt8) && (((rd_T43 t106 0).f1) == 3 && (((rd_T43 t106 0).f2) == 3 && ((((rd_T43 t106 0).f3.f0) == 2 && (((rd_T43 t106 0).f3.f1) == 0 && (((rd_T43 t106 0).f3.f2) == 0 && (((rd_T43 t106 0).f3.f3) == 49 && (((rd_T43 t106 0).f3.f4) == 0 && (((rd_T43 t106 0).f3.f5) == 0)))))))))) = true := c14
 (try (have c14b1 : decide ((((rd_T43 t106 0).f0).toList) = ([102] : List UInt8) && (((rd_T43 t106 0).f1) == 3 && (((rd_T43 t106 0).f2) == 3 && ((((rd_T43 t106 0).f3.f0) == 2 && (((rd_T43 t106 0).f3.f1) == 0 && (((rd_T43 t106 0).f3.f2) == 0 && (((rd_T43 t106 0).f3.f3) == 49 && (((rd_T43 t106 0).f3.f4) == 0 && (((rd_T43 t106 0).f3.f5) == 0)))))))))) = true := by simpa using c14))
 (try (have c14b2 : ((((rd_T43 t106 0).f0).toList) == ([102] : List UInt8) && (((rd_T43 t106 0).f1) == 3 && (((rd_T43 t106 0).f2) == 3 && ((((rd_T43 t106 0).f3.f0) == 2 && (((rd_T43 t106 0).f3.f1) == 0 && (((rd_T43 t106 0).f3.f2) == 0 && (((rd_T43 t106 0).f3.f3) == 49 && (((rd_T43 t106 0).f3.f4) == 0 && (((rd_T43 t106 0).f3.f5) == 0)))))))))) = true := by simpa using c14))
 clear c14
 by_cases c15 : t119 = 16
 rotate_left
 ·rw [if_neg c15] at H
  exact absurd H (by simp)
 rw [if_pos c15] at H
 have c15b0 : (t119 == 16) = true := beq_iff_eq.mpr c15
 have c15b1 : (t119 != 16) = false := bne_eq_false_iff_eq.mpr c15
 clear c15
 by_cases c16 : t120 = 6
 rotate_left
 ·rw [if_neg c16] at H
  exact absurd H (by simp)
 rw [if_pos c16] at H
 have c16b0 : (t120 == 6) = true := beq_iff_eq.mpr c16
 have c16b1 : (t120 != 6) = false := bne_eq_false_iff_eq.mpr c16
 clear c16
 by_cases c17 : t129 = 20
 rotate_left
 ·rw [if_neg c17] at H
  exact absurd H (by simp)
 rw [if_pos c17] at H
 have c17b0 : (t129 == 20) = true := beq_iff_eq.mpr c17
 have c17b1 : (t129 != 20) = false := bne_eq_false_iff_eq.mpr c17
 clear c17
 obtain rfl := Option.some.inj H
 go_enter Tryd.func8, Tryd.ntmps8
 go_wp2_with (first | ((with_reducible refine gate_callee (f := 9) rfl ?_); refine goesL_ (some 11) rfl rfl Tryd.func9 (by kernel_rfl) rfl #[.string (⟨#[99, 97, 116, 97, 108, 111, 103, 117, 101, 10, 102, 114, 101, 101, 32, 55, 10, 115, 101, 97, 115, 111, 110, 32, 115, 32, 49, 32, 50, 32, 110, 116, 104, 32, 109, 111, 110, 100, 97, 121, 32, 45, 49, 32, 53, 32, 51, 49, 10, 102, 101, 97, 115, 116, 32, 102, 32, 51, 32, 111, 109, 105, 116, 32, 101, 97, 115, 116, 101, 114, 32, 52, 57, 10, 101, 110, 100, 10]⟩ : ByteArray)] rfl (by (try simp only [List.map_toArray, List.map_cons, List.map_nil]); first | done | rfl | (simp only [List.length_drop, List.length_take]; rfl)) ?_; (with_reducible refine (cattext_Parse.calls (hT := Tabs.below HTAB.out (by repeat (first | (with_reducible first | exact HB.out | apply below_alloc | apply pw_below_drewN | apply below_drew1 | refine below_set ?_ (by assumption) | refine below_set ?_ GE111.out | refine below_set ?_ GE121.out | refine below_set ?_ GE131.out) | exact HB.out))) (⟨#[99, 97, 116, 97, 108, 111, 103, 117, 101, 10, 102, 114, 101, 101, 32, 55, 10, 115, 101, 97, 115, 111, 110, 32, 115, 32, 49, 32, 50, 32, 110, 116, 104, 32, 109, 111, 110, 100, 97, 121, 32, 45, 49, 32, 53, 32, 51, 49, 10, 102, 101, 97, 115, 116, 32, 102, 32, 51, 32, 111, 109, 105, 116, 32, 101, 97, 115, 116, 101, 114, 32, 52, 57, 10, 101, 110, 100, 10]⟩ : ByteArray) t102 t103 t106 t109 t110 _ A1.out).mono ?_); rintro e w18 ⟨v104, v107, rfl, ho0, ho1, hb⟩; refine ⟨_, rfl, ?_⟩; have HO105 := am_ (Kd.R_lower ho0 bz_); have HO108 := am_ (Kd.R_lower ho1 bz_); replace HB := bt_ hb; (try clear hb); (try clear ho0); (try clear ho1)) | ((with_reducible refine gate_dst (N := 1) rfl ?_); (try (refine gate_guard (by rfl) ?_; dsimp only)); refine be_ (N := 1) (cs := #[.int .i64 0, .slice none 0 0, .slice none 0 0]) (t := 26) ?_; intro gb111 hg w19 hbox hb; replace HO105 := rw_ HO105 hb; replace HO108 := rw_ HO108 hb; have BK111 := am_ (hbox); have GW111 := gw_ (w := w) hg; have GE111 := gw_ (w := w) hg; replace HB := bt_ hb; clear hb hbox hg; obtain ⟨hcz20_0, hcz20_1, hcz20_2⟩ := cz3_ BK111.out; obtain ⟨hfz20_0, hfz20_1, hfz20_2⟩ := fz3_ BK111.out; obtain ⟨Ao21, co21, eo21⟩ := Kd.R_slice HO105.out; subst eo21; obtain ⟨Ao22, co22, eo22⟩ := Kd.R_slice HO108.out; subst eo22) | ((with_reducible refine gate_callee (f := 9) rfl ?_); refine goesL_ (some 16) rfl rfl Tryd.func9 (by kernel_rfl) rfl #[.string (⟨#[99, 97, 116, 97, 108, 111, 103, 117, 101, 10, 102, 114, 101, 101, 32, 48, 48, 10, 101, 110, 100, 10]⟩ : ByteArray)] rfl (by (try simp only [List.map_toArray, List.map_cons, List.map_nil]); first | done | rfl | (simp only [List.length_drop, List.length_take]; rfl)) ?_; (with_reducible refine (cattext_Parse.calls (hT := Tabs.below HTAB.out (by repeat (first | (with_reducible first | exact HB.out | apply below_alloc | apply pw_below_drewN | apply below_drew1 | refine below_set ?_ (by assumption) | refine below_set ?_ GE111.out | refine below_set ?_ GE121.out | refine below_set ?_ GE131.out) | exact HB.out))) (⟨#[99, 97, 116, 97, 108, 111, 103, 117, 101, 10, 102, 114, 101, 101, 32, 48, 48, 10, 101, 110, 100, 10]⟩ : ByteArray) t112 t113 t116 t119 t120 _ A2.out).mono ?_); rintro e w23 ⟨v114, v117, rfl, ho0, ho1, hb⟩; refine ⟨_, rfl, ?_⟩; have HO115 := am_ (Kd.R_lower (Kd.R_new' ho0 (Kd.R_lt (fa_ HO105 BK111))) bz_); replace HO105 := am_ (Kd.R_elder' (fa_ HO105 BK111) (Kd.R_base ho0) hb); have HO118 := am_ (Kd.R_lower (Kd.R_new' ho1 (Kd.R_lt (fa_ HO108 BK111))) bz_); replace HO108 := am_ (Kd.R_elder' (fa_ HO108 BK111) (Kd.R_base ho1) hb); replace BK111 := am_ (blk_below (g := gb111) (o := .cells #[.int .i64 t102, .slice Ao21 t103.length co21, .slice Ao22 t106.length co22] 26 (0, 0)) (by refine bp_ ?_; refine blk_put (cs := #[.int .i64 t102, .slice Ao21 t103.length co21, .slice none 0 0]) ?_ 2 _ rfl; refine bp_ ?_; refine blk_put (cs := #[.int .i64 t102, .slice none 0 0, .slice none 0 0]) ?_ 1 _ rfl; refine bp_ ?_; refine blk_put (cs := #[.int .i64 0, .slice none 0 0, .slice none 0 0]) ?_ 0 _ rfl; exact bk_ BK111.out) hb); replace HB := bt_ hb; (try clear hb); (try clear ho0); (try clear ho1)) | ((with_reducible refine gate_dst (N := 4) rfl ?_); (try (refine gate_guard (by rfl) ?_; dsimp only)); refine be_ (N := 4) (cs := #[.int .i64 0, .slice none 0 0, .slice none 0 0]) (t := 26) ?_; intro gb121 hg w24 hbox hb; replace HO105 := rw_ HO105 hb; replace HO108 := rw_ HO108 hb; replace HO115 := rw_ HO115 hb; replace HO118 := rw_ HO118 hb; have BK121 := am_ (hbox); have GW121 := gw_ (w := w) hg; have GE121 := gw_ (w := w) hg; replace HB := bt_ hb; have NB111_121 := ne_ hg BK111; have NB121_111 := nf_ hg BK111; replace BK111 := bw_ BK111 hb; clear hb hbox hg; have hnb25 := NB121_111.out; have hnc25 := NB111_121.out; obtain ⟨hcz26_0, hcz26_1, hcz26_2⟩ := cz3_ BK121.out; obtain ⟨hfz26_0, hfz26_1, hfz26_2⟩ := fz3_ BK121.out; obtain ⟨Ao27, co27, eo27⟩ := Kd.R_slice HO115.out; subst eo27; obtain ⟨Ao28, co28, eo28⟩ := Kd.R_slice HO118.out; subst eo28) | ((with_reducible refine gate_callee (f := 9) rfl ?_); refine goesL_ (some 21) rfl rfl Tryd.func9 (by kernel_rfl) rfl #[.string (⟨#[99, 97, 116, 97, 108, 111, 103, 117, 101, 10, 102, 114, 101, 101, 32, 48, 10, 101, 110, 100]⟩ : ByteArray)] rfl (by (try simp only [List.map_toArray, List.map_cons, List.map_nil]); first | done | rfl | (simp only [List.length_drop, List.length_take]; rfl)) ?_; (with_reducible refine (cattext_Parse.calls (hT := Tabs.below HTAB.out (by repeat (first | (with_reducible first | exact HB.out | apply below_alloc | apply pw_below_drewN | apply below_drew1 | refine below_set ?_ (by assumption) | refine below_set ?_ GE111.out | refine below_set ?_ GE121.out | refine below_set ?_ GE131.out) | exact HB.out))) (⟨#[99, 97, 116, 97, 108, 111, 103, 117, 101, 10, 102, 114, 101, 101, 32, 48, 10, 101, 110, 100]⟩ : ByteArray) t122 t123 t126 t129 t130 _ A3.out).mono ?_); rintro e w29 ⟨v124, v127, rfl, ho0, ho1, hb⟩; refine ⟨_, rfl, ?_⟩; have HO125 := am_ (Kd.R_lower (Kd.R_new' (Kd.R_new' ho0 (Kd.R_lt (fa_ HO105 BK121))) (Kd.R_lt (fa_ HO115 BK121))) bz_); replace HO105 := am_ (Kd.R_elder' (fa_ HO105 BK121) (Kd.R_base ho0) hb); replace HO115 := am_ (Kd.R_elder' (fa_ HO115 BK121) (Kd.R_base ho0) hb); have HO128 := am_ (Kd.R_lower (Kd.R_new' (Kd.R_new' ho1 (Kd.R_lt (fa_ HO108 BK121))) (Kd.R_lt (fa_ HO118 BK121))) bz_); replace HO108 := am_ (Kd.R_elder' (fa_ HO108 BK121) (Kd.R_base ho1) hb); replace HO118 := am_ (Kd.R_elder' (fa_ HO118 BK121) (Kd.R_base ho1) hb); replace BK111 := am_ (blk_below (g := gb111) (o := .cells #[.int .i64 t102, .slice Ao21 t103.length co21, .slice Ao22 t106.length co22] 26 (0, 0)) (by refine bp_ ?_; refine blk_far ?_ NB111_121.out _; refine bp_ ?_; refine blk_far ?_ NB111_121.out _; refine bp_ ?_; refine blk_far ?_ NB111_121.out _; exact bk_ BK111.out) hb); replace BK121 := am_ (blk_below (g := gb121) (o := .cells #[.int .i64 t112, .slice Ao27 t113.length co27, .slice Ao28 t116.length co28] 26 (0, 0)) (by refine bp_ ?_; refine blk_put (cs := #[.int .i64 t112, .slice Ao27 t113.length co27, .slice none 0 0]) ?_ 2 _ rfl; refine bp_ ?_; refine blk_put (cs := #[.int .i64 t112, .slice none 0 0, .slice none 0 0]) ?_ 1 _ rfl; refine bp_ ?_; refine blk_put (cs := #[.int .i64 0, .slice none 0 0, .slice none 0 0]) ?_ 0 _ rfl; exact bk_ BK121.out) hb); replace HB := bt_ hb; (try clear hb); (try clear ho0); (try clear ho1)) | ((with_reducible refine gate_dst (N := 7) rfl ?_); (try (refine gate_guard (by rfl) ?_; dsimp only)); refine be_ (N := 7) (cs := #[.int .i64 0, .slice none 0 0, .slice none 0 0]) (t := 26) ?_; intro gb131 hg w30 hbox hb; replace HO105 := rw_ HO105 hb; replace HO108 := rw_ HO108 hb; replace HO115 := rw_ HO115 hb; replace HO118 := rw_ HO118 hb; replace HO125 := rw_ HO125 hb; replace HO128 := rw_ HO128 hb; have BK131 := am_ (hbox); have GW131 := gw_ (w := w) hg; have GE131 := gw_ (w := w) hg; replace HB := bt_ hb; have NB111_131 := ne_ hg BK111; have NB131_111 := nf_ hg BK111; replace BK111 := bw_ BK111 hb; have NB121_131 := ne_ hg BK121; have NB131_121 := nf_ hg BK121; replace BK121 := bw_ BK121 hb; clear hb hbox hg; have hnb31 := NB131_111.out; have hnc31 := NB111_131.out; have hnb32 := NB131_121.out; have hnc32 := NB121_131.out; obtain ⟨hcz33_0, hcz33_1, hcz33_2⟩ := cz3_ BK131.out; obtain ⟨hfz33_0, hfz33_1, hfz33_2⟩ := fz3_ BK131.out; obtain ⟨Ao34, co34, eo34⟩ := Kd.R_slice HO125.out; subst eo34; obtain ⟨Ao35, co35, eo35⟩ := Kd.R_slice HO128.out; subst eo35; obtain ⟨hcz36_0, hcz36_1, hcz36_2⟩ := cz3_ BK111.out; obtain ⟨hfz36_0, hfz36_1, hfz36_2⟩ := fz3_ BK111.out) | ((with_reducible refine gate_callee (f := 14) rfl ?_); refine goesL_ (some 36) rfl rfl Tryd.func14 (by kernel_rfl) rfl #[.agg #[.int .i64 0, .slice none 0 0, .slice none 0 0]] rfl (by (try simp only [List.map_toArray, List.map_cons, List.map_nil]); first | done | rfl | (simp only [List.length_drop, List.length_take]; rfl)) ?_; (refine (cattext_Print.calls (hT := Tabs.below HTAB.out (by repeat (first | (with_reducible first | exact HB.out | apply below_alloc | apply pw_below_drewN | apply below_drew1 | refine below_set ?_ (by assumption) | refine below_set ?_ GE111.out | refine below_set ?_ GE121.out | refine below_set ?_ GE131.out) | exact HB.out))) 0 _ _ ([] : List (S41)) _ _ ([] : List (S43)) t132 _ ?side1 ?side2 ?side3 ?side4 A6.out).mono ?_); (case side1 => exact Kd.C_nil _ _); (case side2 => exact Nat.le_refl _); (case side3 => exact Kd.C_nil _ _); (case side4 => exact Nat.le_refl _); rintro e w37 ⟨rfl, hb⟩; refine ⟨_, rfl, ?_⟩; replace HO105 := am_ (Kd.R_below (fa_ HO105 BK131) hb); replace HO108 := am_ (Kd.R_below (fa_ HO108 BK131) hb); replace HO115 := am_ (Kd.R_below (fa_ HO115 BK131) hb); replace HO118 := am_ (Kd.R_below (fa_ HO118 BK131) hb); replace HO125 := am_ (Kd.R_below (fa_ HO125 BK131) hb); replace HO128 := am_ (Kd.R_below (fa_ HO128 BK131) hb); replace BK111 := am_ (blk_below (g := gb111) (o := .cells #[.int .i64 t102, .slice Ao21 t103.length co21, .slice Ao22 t106.length co22] 26 (0, 0)) (by refine bp_ ?_; refine blk_far ?_ NB111_131.out _; refine bp_ ?_; refine blk_far ?_ NB111_131.out _; refine bp_ ?_; refine blk_far ?_ NB111_131.out _; exact bk_ BK111.out) hb); replace BK121 := am_ (blk_below (g := gb121) (o := .cells #[.int .i64 t112, .slice Ao27 t113.length co27, .slice Ao28 t116.length co28] 26 (0, 0)) (by refine bp_ ?_; refine blk_far ?_ NB121_131.out _; refine bp_ ?_; refine blk_far ?_ NB121_131.out _; refine bp_ ?_; refine blk_far ?_ NB121_131.out _; exact bk_ BK121.out) hb); replace BK131 := am_ (blk_below (g := gb131) (o := .cells #[.int .i64 t122, .slice Ao34 t123.length co34, .slice Ao35 t126.length co35] 26 (0, 0)) (by refine bp_ ?_; refine blk_put (cs := #[.int .i64 t122, .slice Ao34 t123.length co34, .slice none 0 0]) ?_ 2 _ rfl; refine bp_ ?_; refine blk_put (cs := #[.int .i64 t122, .slice none 0 0, .slice none 0 0]) ?_ 1 _ rfl; refine bp_ ?_; refine blk_put (cs := #[.int .i64 0, .slice none 0 0, .slice none 0 0]) ?_ 0 _ rfl; exact bk_ BK131.out) hb); replace HB := bt_ hb; (try clear hb); obtain ⟨hcz38_0, hcz38_1, hcz38_2⟩ := cz3_ BK111.out; obtain ⟨hfz38_0, hfz38_1, hfz38_2⟩ := fz3_ BK111.out; have p133 : 0 ≤ (0 : Int) := (by omega); have q133 : 0 < (t103.length : Int) := of_decide_eq_true as_; obtain ⟨ad133, e133, hx133_0, hx133_1, hx133_2, hx133_3, hx133_4, hx133_5, hx133_6, hx133_7, hx133_8⟩ := at_T41 (Kd.R_reads' HO105.out).2.2 0 p133 q133; cases e133; have qi133 : (0 < t103.length) = True := eq_true (by omega); (try rw [show ((0 : Int)).toNat = 0 from rfl] at hx133_0); (try rw [show 0 * 9 = 0 from rfl] at hx133_0); (try rw [Addr.add_zero'] at hx133_0); (try rw [show ((0 : Int)).toNat = 0 from rfl] at hx133_1); (try rw [show 0 * 9 = 0 from rfl] at hx133_1); (try rw [Addr.add_zero'] at hx133_1); (try rw [show ((0 : Int)).toNat = 0 from rfl] at hx133_2); (try rw [show 0 * 9 = 0 from rfl] at hx133_2); (try rw [Addr.add_zero'] at hx133_2); (try rw [show ((0 : Int)).toNat = 0 from rfl] at hx133_3); (try rw [show 0 * 9 = 0 from rfl] at hx133_3); (try rw [Addr.add_zero'] at hx133_3); (try rw [show ((0 : Int)).toNat = 0 from rfl] at hx133_4); (try rw [show 0 * 9 = 0 from rfl] at hx133_4); (try rw [Addr.add_zero'] at hx133_4); (try rw [show ((0 : Int)).toNat = 0 from rfl] at hx133_5); (try rw [show 0 * 9 = 0 from rfl] at hx133_5); (try rw [Addr.add_zero'] at hx133_5); (try rw [show ((0 : Int)).toNat = 0 from rfl] at hx133_6); (try rw [show 0 * 9 = 0 from rfl] at hx133_6); (try rw [Addr.add_zero'] at hx133_6); (try rw [show ((0 : Int)).toNat = 0 from rfl] at hx133_7); (try rw [show 0 * 9 = 0 from rfl] at hx133_7); (try rw [Addr.add_zero'] at hx133_7); (try rw [show ((0 : Int)).toNat = 0 from rfl] at hx133_8); (try rw [show 0 * 9 = 0 from rfl] at hx133_8); (try rw [Addr.add_zero'] at hx133_8); replace p133 := eq_true p133; replace q133 := eq_true q133; have p134 : 0 ≤ (0 : Int) := (by omega); have q134 : 0 < (t106.length : Int) := of_decide_eq_true as_; obtain ⟨ad134, e134, hx134_0, hx134_1, hx134_2, hx134_3, hx134_4, hx134_5, hx134_6, hx134_7, hx134_8⟩ := at_T43 (Kd.R_reads' HO108.out).2.2 0 p134 q134; cases e134; have qi134 : (0 < t106.length) = True := eq_true (by omega); (try rw [show ((0 : Int)).toNat = 0 from rfl] at hx134_0); (try rw [show 0 * 9 = 0 from rfl] at hx134_0); (try rw [Addr.add_zero'] at hx134_0); (try rw [show ((0 : Int)).toNat = 0 from rfl] at hx134_1); (try rw [show 0 * 9 = 0 from rfl] at hx134_1); (try rw [Addr.add_zero'] at hx134_1); (try rw [show ((0 : Int)).toNat = 0 from rfl] at hx134_2); (try rw [show 0 * 9 = 0 from rfl] at hx134_2); (try rw [Addr.add_zero'] at hx134_2); (try rw [show ((0 : Int)).toNat = 0 from rfl] at hx134_3); (try rw [show 0 * 9 = 0 from rfl] at hx134_3); (try rw [Addr.add_zero'] at hx134_3); (try rw [show ((0 : Int)).toNat = 0 from rfl] at hx134_4); (try rw [show 0 * 9 = 0 from rfl] at hx134_4); (try rw [Addr.add_zero'] at hx134_4); (try rw [show ((0 : Int)).toNat = 0 from rfl] at hx134_5); (try rw [show 0 * 9 = 0 from rfl] at hx134_5); (try rw [Addr.add_zero'] at hx134_5); (try rw [show ((0 : Int)).toNat = 0 from rfl] at hx134_6); (try rw [show 0 * 9 = 0 from rfl] at hx134_6); (try rw [Addr.add_zero'] at hx134_6); (try rw [show ((0 : Int)).toNat = 0 from rfl] at hx134_7); (try rw [show 0 * 9 = 0 from rfl] at hx134_7); (try rw [Addr.add_zero'] at hx134_7); (try rw [show ((0 : Int)).toNat = 0 from rfl] at hx134_8); (try rw [show 0 * 9 = 0 from rfl] at hx134_8); (try rw [Addr.add_zero'] at hx134_8); replace p134 := eq_true p134; replace q134 := eq_true q134))
 go_ret
 exact rt_
end
def computuslaw26_CattextCanonical.j0 : Nat → Bool → Int → List (S41) → List (S43) → Option (Bool)
 | 0, _, _, _, _ => none
 | k + 1, x18, x403000, x403001, x403002 => if x18 = true then ((computuslaw26_awake.f).bind fun t406 => (some t406)) else ((cattext_Print.f x403000 x403001 x403002).bind fun t407 => ((cattext_Parse.f t407).bind fun bt408 => ((computusref26_Print.f k x403000 x403001 x403002).bind fun t418 => (if t407.toList = t418.toList then ((computusref17_Same.f k x403000 x403001 x403002 bt408.1 bt408.2.1 bt408.2.2.1).bind fun t419 => (if t419 = true then (if bt408.2.2.2.1 = 0 then (some (bt408.2.2.2.2 == 0)) else (none)) else (none))) else (none)))))
def computuslaw26_CattextCanonical.f (k : Nat) (a0_0 : Int) (l0_1 : List (S41)) (l0_2 : List (S43)) : Option (Bool) := (computuslaw26_awake.f).bind fun t403 => (if t403 = true then ((computuslaw26_few.f a0_0 l0_1 l0_2).bind fun t404 => (if t404 = true then ((computusref26_Printable.f k a0_0 l0_1 l0_2).bind fun t405 => (computuslaw26_CattextCanonical.j0 k (!t405) a0_0 l0_1 l0_2)) else (computuslaw26_CattextCanonical.j0 k true a0_0 l0_1 l0_2))) else (computuslaw26_CattextCanonical.j0 k true a0_0 l0_1 l0_2))
theorem computuslaw26_CattextCanonical.calls (k : Nat) (a0_0 : Int) (A0_1 : Option Addr) (c0_1 : Nat) (l0_1 : List (S41)) (A0_2 : Option Addr) (c0_2 : Nat) (l0_2 : List (S43)) (r : Bool) (w : World) (hr0_1 : Kd.C k41 w A0_1 l0_1.length l0_1) (hc0_1 : l0_1.length ≤ c0_1) (hr0_2 : Kd.C k43 w A0_2 l0_2.length l0_2) (hc0_2 : l0_2.length ≤ c0_2) (hT : Tabs w) (h : computuslaw26_CattextCanonical.f k a0_0 l0_1 l0_2 = some r) :
  Calls Tryd.prog 4 #[.agg #[.int .i64 a0_0, .slice A0_1 l0_1.length c0_1, .slice A0_2 l0_2.length c0_2]] w fun e w' => e = .returned (.bool r) ∧ Below w.heap.size w w' := by
 have HTAB := Aside0.mk hT
 clear hT
 have hu26 := Tryd.underlying26
 have HR0_1 := Aside0.mk hr0_1
 have HC0_1 := Aside0.mk hc0_1
 clear hr0_1 hc0_1
 have HR0_2 := Aside0.mk hr0_2
 have HC0_2 := Aside0.mk hc0_2
 clear hr0_2 hc0_2
 have HB := Aside0.mk (Below.refl w.heap.size w)
 have H : ((computuslaw26_awake.f).bind fun t403 => (if t403 = true then ((computuslaw26_few.f a0_0 l0_1 l0_2).bind fun t404 => (if t404 = true then ((computusref26_Printable.f k a0_0 l0_1 l0_2).bind fun t405 => (computuslaw26_CattextCanonical.j0 k (!t405) a0_0 l0_1 l0_2)) else (computuslaw26_CattextCanonical.j0 k true a0_0 l0_1 l0_2))) else (computuslaw26_CattextCanonical.j0 k true a0_0 l0_1 l0_2))) = some r := h
 clear h
 have HC2 := Aside0.mk H
 clear H
 go_enter Tryd.func4, Tryd.ntmps4
 go_upto_region 1 with (first | ((with_reducible refine gate_dst (N := 1) rfl ?_); refine box_event ?hg (N := 1) ?hd (cs := #[.int .i64 a0_0, .slice A0_1 l0_1.length c0_1, .slice A0_2 l0_2.length c0_2]) (t := 26) ?hr ?_; (case hd => rfl); (case hg => rfl); (case hr => first | (go_simp; done) | (go_simp; rfl)); intro gb402 hg w3 hbox hb; have n0_ := Aside0.mk (below_step (by repeat (first | (with_reducible first | exact HB.out | apply below_alloc | apply pw_below_drewN | apply below_drew1) | exact HB.out)) hb); have n1_ := Aside0.mk (hbox); have n2_ := Aside0.mk ((by rw [hg]; exact (below_size (by repeat (first | (with_reducible first | exact HB.out | apply below_alloc | apply pw_below_drewN | apply below_drew1) | exact HB.out))) : w.heap.size ≤ gb402)); have n3_ := Aside0.mk ((by rw [hg]; exact (below_size (by repeat (first | (with_reducible first | exact HB.out | apply below_alloc | apply pw_below_drewN | apply below_drew1) | exact HB.out))) : w.heap.size ≤ gb402)); clear HB; have HB := n0_; have BK402 := n1_; have GW402 := n2_; have GE402 := n3_; clear n0_ n1_ n2_ n3_; clear hb hbox hg))
 (try simp only [Act.put, List.setIfInBounds_toArray, List.set_cons_zero, List.set_cons_succ])
 go_cut [18] (fun v18 wc => ∃ (kq : Nat) (x18_1 : Bool), v18 = .bool x18_1 ∧ Aside0 (computuslaw26_CattextCanonical.j0 kq x18_1 a0_0 l0_1 l0_2 = some r) ∧ Aside0 (kq ≤ k) ∧ Aside0 (wc.heap[gb402]? = some (.cells #[.int .i64 a0_0, (.slice A0_1 l0_1.length c0_1), (.slice A0_2 l0_2.length c0_2)] 26 (0, 0))) ∧ Aside0 (Below w.heap.size w wc))
 case first =>
  have H := HC2.out
  clear HC2
  replace H := Option.bind_eq_some_iff.mp H
  obtain ⟨t403, A40, H⟩ := H
  replace H : (if t403 = true then ((computuslaw26_few.f a0_0 l0_1 l0_2).bind fun t404 => (if t404 = true then ((computusref26_Printable.f k a0_0 l0_1 l0_2).bind fun t405 => (computuslaw26_CattextCanonical.j0 k (!t405) a0_0 l0_1 l0_2)) else (computuslaw26_CattextCanonical.j0 k true a0_0 l0_1 l0_2))) else (computuslaw26_CattextCanonical.j0 k true a0_0 l0_1 l0_2)) = some r := H
  have A4 := Aside0.mk A40
  clear A40
  by_cases c5 : t403 = true
  ·subst c5
   have H1 : ((computuslaw26_few.f a0_0 l0_1 l0_2).bind fun t404 => (if t404 = true then ((computusref26_Printable.f k a0_0 l0_1 l0_2).bind fun t405 => (computuslaw26_CattextCanonical.j0 k (!t405) a0_0 l0_1 l0_2)) else (computuslaw26_CattextCanonical.j0 k true a0_0 l0_1 l0_2))) = some r := by rw [if_pos rfl] at H; exact H
   clear H
   have H := H1
   clear H1
   replace H := Option.bind_eq_some_iff.mp H
   obtain ⟨t404, A60, H⟩ := H
   replace H : (if t404 = true then ((computusref26_Printable.f k a0_0 l0_1 l0_2).bind fun t405 => (computuslaw26_CattextCanonical.j0 k (!t405) a0_0 l0_1 l0_2)) else (computuslaw26_CattextCanonical.j0 k true a0_0 l0_1 l0_2)) = some r := H
   have A6 := Aside0.mk A60
   clear A60
   by_cases c7 : t404 = true
   ·subst c7
    have H1 : ((computusref26_Printable.f k a0_0 l0_1 l0_2).bind fun t405 => (computuslaw26_CattextCanonical.j0 k (!t405) a0_0 l0_1 l0_2)) = some r := by rw [if_pos rfl] at H; exact H
    clear H
    have H := H1
    clear H1
    replace H := Option.bind_eq_some_iff.mp H
    obtain ⟨t405, A80, H⟩ := H
    replace H : (computuslaw26_CattextCanonical.j0 k (!t405) a0_0 l0_1 l0_2) = some r := H
    have A8 := Aside0.mk A80
    clear A80
    have H' := Aside0.mk H
    clear H
    go_wp2_with (first | ((with_reducible refine gate_callee (f := 8) rfl ?_); refine goesL_ (some 7) rfl rfl Tryd.func8 (by kernel_rfl) rfl #[] rfl (by (try simp only [List.map_toArray, List.map_cons, List.map_nil]); first | done | rfl | (simp only [List.length_drop, List.length_take]; rfl)) ?_; (with_reducible refine (computuslaw26_awake.calls (hT := Tabs.below HTAB.out (by repeat (first | (with_reducible first | exact HB.out | apply below_alloc | apply pw_below_drewN | apply below_drew1 | refine below_set ?_ (by assumption)) | exact HB.out)))  true _ A4.out).mono ?_); rintro e w9 ⟨rfl, hb⟩; refine ⟨_, rfl, ?_⟩; have n0_ := Aside0.mk (blk_below (g := gb402) (o := .cells #[.int .i64 a0_0, .slice A0_1 l0_1.length c0_1, .slice A0_2 l0_2.length c0_2] 26 (0, 0)) (by (with_reducible repeat (first | refine blk_drewN ?_ _ | refine blk_drew ?_ | refine blk_alloc ?_ _)); exact BK402.out) hb); have n1_ := Aside0.mk (below_step (by repeat (first | (with_reducible first | exact HB.out | apply below_alloc | apply pw_below_drewN | apply below_drew1 | refine below_set ?_ GE402.out) | exact HB.out)) hb); clear BK402; clear HB; have BK402 := n0_; have HB := n1_; clear n0_ n1_; (try clear hb); (try clear hb2); (try clear hk); (try clear hi); have hcz10_0 : w9.cell? ⟨gb402, 0, none⟩ = some (.int .i64 a0_0) := (blk_cell BK402.out 0).trans rfl; have hcz10_1 : w9.cell? ⟨gb402, 1, none⟩ = some (.slice A0_1 l0_1.length c0_1) := (blk_cell BK402.out 1).trans rfl; have hcz10_2 : w9.cell? ⟨gb402, 2, none⟩ = some (.slice A0_2 l0_2.length c0_2) := (blk_cell BK402.out 2).trans rfl; have hfz10_0 := blk_frozen BK402.out 0; have hfz10_1 := blk_frozen BK402.out 1; have hfz10_2 := blk_frozen BK402.out 2) | (go_at_call 12; (with_reducible refine (computuslaw26_few.calls a0_0 _ _ l0_1 _ _ l0_2 true _ ?side1 ?side2 ?side3 ?side4 A6.out).mono ?_); (case side1 => repeat (first | exact (Kd.C_below HR0_1.out HB.out) | (with_reducible refine Kd.C_alloc ?_ _) | (with_reducible refine Kd.C_drewN ?_ _) | (with_reducible refine Kd.C_drew ?_))); (case side2 => exact HC0_1.out); (case side3 => repeat (first | exact (Kd.C_below HR0_2.out HB.out) | (with_reducible refine Kd.C_alloc ?_ _) | (with_reducible refine Kd.C_drewN ?_ _) | (with_reducible refine Kd.C_drew ?_))); (case side4 => exact HC0_2.out); rintro e w11 ⟨rfl, hb⟩; have n0_ := Aside0.mk (blk_below (g := gb402) (o := .cells #[.int .i64 a0_0, .slice A0_1 l0_1.length c0_1, .slice A0_2 l0_2.length c0_2] 26 (0, 0)) (by (with_reducible repeat (first | refine blk_drewN ?_ _ | refine blk_drew ?_ | refine blk_alloc ?_ _)); exact BK402.out) hb); have n1_ := Aside0.mk (below_step (by repeat (first | (with_reducible first | exact HB.out | apply below_alloc | apply pw_below_drewN | apply below_drew1 | refine below_set ?_ GE402.out) | exact HB.out)) hb); clear BK402; clear HB; have BK402 := n0_; have HB := n1_; clear n0_ n1_; (try clear hb); (try clear hb2); (try clear hk); (try clear hi); have hcz12_0 : w11.cell? ⟨gb402, 0, none⟩ = some (.int .i64 a0_0) := (blk_cell BK402.out 0).trans rfl; have hcz12_1 : w11.cell? ⟨gb402, 1, none⟩ = some (.slice A0_1 l0_1.length c0_1) := (blk_cell BK402.out 1).trans rfl; have hcz12_2 : w11.cell? ⟨gb402, 2, none⟩ = some (.slice A0_2 l0_2.length c0_2) := (blk_cell BK402.out 2).trans rfl; have hfz12_0 := blk_frozen BK402.out 0; have hfz12_1 := blk_frozen BK402.out 1; have hfz12_2 := blk_frozen BK402.out 2) | (go_at_call 13; (with_reducible refine (computusref26_Printable.calls k a0_0 _ _ l0_1 _ _ l0_2 t405 _ ?side1 ?side2 ?side3 ?side4 A8.out).mono ?_); (case side1 => repeat (first | exact (Kd.C_below HR0_1.out HB.out) | (with_reducible refine Kd.C_alloc ?_ _) | (with_reducible refine Kd.C_drewN ?_ _) | (with_reducible refine Kd.C_drew ?_))); (case side2 => exact HC0_1.out); (case side3 => repeat (first | exact (Kd.C_below HR0_2.out HB.out) | (with_reducible refine Kd.C_alloc ?_ _) | (with_reducible refine Kd.C_drewN ?_ _) | (with_reducible refine Kd.C_drew ?_))); (case side4 => exact HC0_2.out); rintro e w13 ⟨rfl, hb⟩; have n0_ := Aside0.mk (blk_below (g := gb402) (o := .cells #[.int .i64 a0_0, .slice A0_1 l0_1.length c0_1, .slice A0_2 l0_2.length c0_2] 26 (0, 0)) (by (with_reducible repeat (first | refine blk_drewN ?_ _ | refine blk_drew ?_ | refine blk_alloc ?_ _)); exact BK402.out) hb); have n1_ := Aside0.mk (below_step (by repeat (first | (with_reducible first | exact HB.out | apply below_alloc | apply pw_below_drewN | apply below_drew1 | refine below_set ?_ GE402.out) | exact HB.out)) hb); clear BK402; clear HB; have BK402 := n0_; have HB := n1_; clear n0_ n1_; (try clear hb); (try clear hb2); (try clear hk); (try clear hi)))
    go_meet
    case rel => exact ⟨_, (!t405), (by first | rfl | (simp; done) | (simp [*]; done)), H', ⟨by first | omega | exact Nat.le_refl _⟩, ⟨by (with_reducible repeat (first | refine blk_drewN ?_ _ | refine blk_drew ?_ | refine blk_alloc ?_ _)); exact BK402.out⟩, ⟨by repeat (first | (with_reducible first | exact HB.out | apply below_alloc | apply pw_below_drewN | apply below_drew1 | refine below_set ?_ GE402.out) | exact HB.out)⟩⟩
   ·replace c7 := Bool.eq_false_iff.mpr c7
    subst c7
    have H1 : (computuslaw26_CattextCanonical.j0 k true a0_0 l0_1 l0_2) = some r := by rw [if_neg (show ¬ (false = true) by decide)] at H; exact H
    clear H
    have H := H1
    clear H1
    have H' := Aside0.mk H
    clear H
    go_wp2_with (first | ((with_reducible refine gate_callee (f := 8) rfl ?_); refine goesL_ (some 7) rfl rfl Tryd.func8 (by kernel_rfl) rfl #[] rfl (by (try simp only [List.map_toArray, List.map_cons, List.map_nil]); first | done | rfl | (simp only [List.length_drop, List.length_take]; rfl)) ?_; (with_reducible refine (computuslaw26_awake.calls (hT := Tabs.below HTAB.out (by repeat (first | (with_reducible first | exact HB.out | apply below_alloc | apply pw_below_drewN | apply below_drew1 | refine below_set ?_ (by assumption)) | exact HB.out)))  true _ A4.out).mono ?_); rintro e w14 ⟨rfl, hb⟩; refine ⟨_, rfl, ?_⟩; have n0_ := Aside0.mk (blk_below (g := gb402) (o := .cells #[.int .i64 a0_0, .slice A0_1 l0_1.length c0_1, .slice A0_2 l0_2.length c0_2] 26 (0, 0)) (by (with_reducible repeat (first | refine blk_drewN ?_ _ | refine blk_drew ?_ | refine blk_alloc ?_ _)); exact BK402.out) hb); have n1_ := Aside0.mk (below_step (by repeat (first | (with_reducible first | exact HB.out | apply below_alloc | apply pw_below_drewN | apply below_drew1 | refine below_set ?_ GE402.out) | exact HB.out)) hb); clear BK402; clear HB; have BK402 := n0_; have HB := n1_; clear n0_ n1_; (try clear hb); (try clear hb2); (try clear hk); (try clear hi); have hcz15_0 : w14.cell? ⟨gb402, 0, none⟩ = some (.int .i64 a0_0) := (blk_cell BK402.out 0).trans rfl; have hcz15_1 : w14.cell? ⟨gb402, 1, none⟩ = some (.slice A0_1 l0_1.length c0_1) := (blk_cell BK402.out 1).trans rfl; have hcz15_2 : w14.cell? ⟨gb402, 2, none⟩ = some (.slice A0_2 l0_2.length c0_2) := (blk_cell BK402.out 2).trans rfl; have hfz15_0 := blk_frozen BK402.out 0; have hfz15_1 := blk_frozen BK402.out 1; have hfz15_2 := blk_frozen BK402.out 2) | (go_at_call 12; (with_reducible refine (computuslaw26_few.calls a0_0 _ _ l0_1 _ _ l0_2 false _ ?side1 ?side2 ?side3 ?side4 A6.out).mono ?_); (case side1 => repeat (first | exact (Kd.C_below HR0_1.out HB.out) | (with_reducible refine Kd.C_alloc ?_ _) | (with_reducible refine Kd.C_drewN ?_ _) | (with_reducible refine Kd.C_drew ?_))); (case side2 => exact HC0_1.out); (case side3 => repeat (first | exact (Kd.C_below HR0_2.out HB.out) | (with_reducible refine Kd.C_alloc ?_ _) | (with_reducible refine Kd.C_drewN ?_ _) | (with_reducible refine Kd.C_drew ?_))); (case side4 => exact HC0_2.out); rintro e w16 ⟨rfl, hb⟩; have n0_ := Aside0.mk (blk_below (g := gb402) (o := .cells #[.int .i64 a0_0, .slice A0_1 l0_1.length c0_1, .slice A0_2 l0_2.length c0_2] 26 (0, 0)) (by (with_reducible repeat (first | refine blk_drewN ?_ _ | refine blk_drew ?_ | refine blk_alloc ?_ _)); exact BK402.out) hb); have n1_ := Aside0.mk (below_step (by repeat (first | (with_reducible first | exact HB.out | apply below_alloc | apply pw_below_drewN | apply below_drew1 | refine below_set ?_ GE402.out) | exact HB.out)) hb); clear BK402; clear HB; have BK402 := n0_; have HB := n1_; clear n0_ n1_; (try clear hb); (try clear hb2); (try clear hk); (try clear hi)))
    go_meet
    case rel => exact ⟨_, (true), (by first | rfl | (simp; done) | (simp [*]; done)), H', ⟨by first | omega | exact Nat.le_refl _⟩, ⟨by (with_reducible repeat (first | refine blk_drewN ?_ _ | refine blk_drew ?_ | refine blk_alloc ?_ _)); exact BK402.out⟩, ⟨by repeat (first | (with_reducible first | exact HB.out | apply below_alloc | apply pw_below_drewN | apply below_drew1 | refine below_set ?_ GE402.out) | exact HB.out)⟩⟩
  ·replace c5 := Bool.eq_false_iff.mpr c5
   subst c5
   have H1 : (computuslaw26_CattextCanonical.j0 k true a0_0 l0_1 l0_2) = some r := by rw [if_neg (show ¬ (false = true) by decide)] at H; exact H
   clear H
   have H := H1
   clear H1
   have H' := Aside0.mk H
   clear H
   go_wp2_with (first | ((with_reducible refine gate_callee (f := 8) rfl ?_); refine goesL_ (some 7) rfl rfl Tryd.func8 (by kernel_rfl) rfl #[] rfl (by (try simp only [List.map_toArray, List.map_cons, List.map_nil]); first | done | rfl | (simp only [List.length_drop, List.length_take]; rfl)) ?_; (with_reducible refine (computuslaw26_awake.calls (hT := Tabs.below HTAB.out (by repeat (first | (with_reducible first | exact HB.out | apply below_alloc | apply pw_below_drewN | apply below_drew1 | refine below_set ?_ (by assumption)) | exact HB.out)))  false _ A4.out).mono ?_); rintro e w17 ⟨rfl, hb⟩; refine ⟨_, rfl, ?_⟩; have n0_ := Aside0.mk (blk_below (g := gb402) (o := .cells #[.int .i64 a0_0, .slice A0_1 l0_1.length c0_1, .slice A0_2 l0_2.length c0_2] 26 (0, 0)) (by (with_reducible repeat (first | refine blk_drewN ?_ _ | refine blk_drew ?_ | refine blk_alloc ?_ _)); exact BK402.out) hb); have n1_ := Aside0.mk (below_step (by repeat (first | (with_reducible first | exact HB.out | apply below_alloc | apply pw_below_drewN | apply below_drew1 | refine below_set ?_ GE402.out) | exact HB.out)) hb); clear BK402; clear HB; have BK402 := n0_; have HB := n1_; clear n0_ n1_; (try clear hb); (try clear hb2); (try clear hk); (try clear hi)))
   go_meet
   case rel => exact ⟨_, (true), (by first | rfl | (simp; done) | (simp [*]; done)), H', ⟨by first | omega | exact Nat.le_refl _⟩, ⟨by (with_reducible repeat (first | refine blk_drewN ?_ _ | refine blk_drew ?_ | refine blk_alloc ?_ _)); exact BK402.out⟩, ⟨by repeat (first | (with_reducible first | exact HB.out | apply below_alloc | apply pw_below_drewN | apply below_drew1 | refine below_set ?_ GE402.out) | exact HB.out)⟩⟩
 case rest =>
  clear HC2
  try clear p2
  try clear c4
  try clear c5
  try clear c7
  try clear c8
  try clear hcz10_0
  try clear hcz10_1
  try clear hcz10_2
  try clear hcz12_0
  try clear hcz12_1
  try clear hcz12_2
  try clear hcz15_0
  try clear hcz15_1
  try clear hcz15_2
  try clear hfz10_0
  try clear hfz10_1
  try clear hfz10_2
  try clear hfz12_0
  try clear hfz12_1
  try clear hfz12_2
  try clear hfz15_0
  try clear hfz15_1
  try clear hfz15_2
  obtain ⟨kq, x18_1, rfl, HA, HJ1, BK402, HB⟩ := hcut
  cases kq with
  | zero => exact absurd HA.out (by simp [computuslaw26_CattextCanonical.j0])
  | succ kj1 =>
   have H := HA.out
   clear HA
   simp only [computuslaw26_CattextCanonical.j0] at H
   by_cases c18 : x18_1 = true
   ·subst c18
    have H1 : ((computuslaw26_awake.f).bind fun t406 => (some t406)) = some r := by rw [if_pos rfl] at H; exact H
    clear H
    have H := H1
    clear H1
    replace H := Option.bind_eq_some_iff.mp H
    obtain ⟨t406, A190, H⟩ := H
    replace H : (some t406) = some r := H
    have A19 := Aside0.mk A190
    clear A190
    obtain rfl := Option.some.inj H
    go_wp2_with (first | ((with_reducible refine gate_callee (f := 8) rfl ?_); refine goesL_ (some 19) rfl rfl Tryd.func8 (by kernel_rfl) rfl #[] rfl (by (try simp only [List.map_toArray, List.map_cons, List.map_nil]); first | done | rfl | (simp only [List.length_drop, List.length_take]; rfl)) ?_; (with_reducible refine (computuslaw26_awake.calls (hT := Tabs.below HTAB.out (by repeat (first | (with_reducible first | exact HB.out | apply below_alloc | apply pw_below_drewN | apply below_drew1 | refine below_set ?_ (by assumption)) | exact HB.out)))  t406 _ A19.out).mono ?_); rintro e w20 ⟨rfl, hb⟩; refine ⟨_, rfl, ?_⟩; have n0_ := Aside0.mk (blk_below (g := gb402) (o := .cells #[.int .i64 a0_0, .slice A0_1 l0_1.length c0_1, .slice A0_2 l0_2.length c0_2] 26 (0, 0)) (by (with_reducible repeat (first | refine blk_drewN ?_ _ | refine blk_drew ?_ | refine blk_alloc ?_ _)); exact BK402.out) hb); have n1_ := Aside0.mk (below_step (by repeat (first | (with_reducible first | exact HB.out | apply below_alloc | apply pw_below_drewN | apply below_drew1 | refine below_set ?_ GE402.out) | exact HB.out)) hb); clear BK402; clear HB; have BK402 := n0_; have HB := n1_; clear n0_ n1_; (try clear hb); (try clear hb2); (try clear hk); (try clear hi)))
    go_ret
    exact ⟨by first | rfl | (simp [errW_none, errW_some] <;> rfl) | (simp [*, errW_none, errW_some] <;> rfl), by repeat (first | (with_reducible first | exact HB.out | apply below_alloc | apply pw_below_drewN | apply below_drew1 | refine below_set ?_ GE402.out) | exact HB.out)⟩
   ·replace c18 := Bool.eq_false_iff.mpr c18
    subst c18
    have H1 : ((cattext_Print.f a0_0 l0_1 l0_2).bind fun t407 => ((cattext_Parse.f t407).bind fun bt408 => ((computusref26_Print.f kj1 a0_0 l0_1 l0_2).bind fun t418 => (if t407.toList = t418.toList then ((computusref17_Same.f kj1 a0_0 l0_1 l0_2 bt408.1 bt408.2.1 bt408.2.2.1).bind fun t419 => (if t419 = true then (if bt408.2.2.2.1 = 0 then (some (bt408.2.2.2.2 == 0)) else (none)) else (none))) else (none))))) = some r := by rw [if_neg (show ¬ (false = true) by decide)] at H; exact H
    clear H
    have H := H1
    clear H1
    replace H := Option.bind_eq_some_iff.mp H
    obtain ⟨t407, A210, H⟩ := H
    replace H : ((cattext_Parse.f t407).bind fun bt408 => ((computusref26_Print.f kj1 a0_0 l0_1 l0_2).bind fun t418 => (if t407.toList = t418.toList then ((computusref17_Same.f kj1 a0_0 l0_1 l0_2 bt408.1 bt408.2.1 bt408.2.2.1).bind fun t419 => (if t419 = true then (if bt408.2.2.2.1 = 0 then (some (bt408.2.2.2.2 == 0)) else (none)) else (none))) else (none)))) = some r := H
    have A21 := Aside0.mk A210
    clear A210
    replace H := Option.bind_eq_some_iff.mp H
    obtain ⟨⟨t408, t409, t412, t415, t416⟩, A220, H⟩ := H
    replace H : ((computusref26_Print.f kj1 a0_0 l0_1 l0_2).bind fun t418 => (if t407.toList = t418.toList then ((computusref17_Same.f kj1 a0_0 l0_1 l0_2 t408 t409 t412).bind fun t419 => (if t419 = true then (if t415 = 0 then (some (t416 == 0)) else (none)) else (none))) else (none))) = some r := H
    have A22 := Aside0.mk A220
    clear A220
    replace H := Option.bind_eq_some_iff.mp H
    obtain ⟨t418, A230, H⟩ := H
    replace H : (if t407.toList = t418.toList then ((computusref17_Same.f kj1 a0_0 l0_1 l0_2 t408 t409 t412).bind fun t419 => (if t419 = true then (if t415 = 0 then (some (t416 == 0)) else (none)) else (none))) else (none)) = some r := H
    have A23 := Aside0.mk A230
    clear A230
    by_cases c24 : t407.toList = t418.toList
    ·rw [if_pos c24] at H
     have c24b0 : (t407.toList == t418.toList) = true := beq_iff_eq.mpr c24
     have c24b1 : (t407.toList != t418.toList) = false := bne_eq_false_iff_eq.mpr c24
     clear c24
     replace H := Option.bind_eq_some_iff.mp H
     obtain ⟨t419, A250, H⟩ := H
     replace H : (if t419 = true then (if t415 = 0 then (some (t416 == 0)) else (none)) else (none)) = some r := H
     have A25 := Aside0.mk A250
     clear A250
     by_cases c26 : t419 = true
     ·subst c26
      have H1 : (if t415 = 0 then (some (t416 == 0)) else (none)) = some r := by rw [if_pos rfl] at H; exact H
      clear H
      have H := H1
      clear H1
      by_cases c27 : t415 = 0
      ·rw [if_pos c27] at H
       have c27b0 : (t415 == 0) = true := beq_iff_eq.mpr c27
       have c27b1 : (t415 != 0) = false := bne_eq_false_iff_eq.mpr c27
       clear c27
       obtain rfl := Option.some.inj H
       have hcz28_0 : wc.cell? ⟨gb402, 0, none⟩ = some (.int .i64 a0_0) := (blk_cell BK402.out 0).trans rfl
       have hcz28_1 : wc.cell? ⟨gb402, 1, none⟩ = some (.slice A0_1 l0_1.length c0_1) := (blk_cell BK402.out 1).trans rfl
       have hcz28_2 : wc.cell? ⟨gb402, 2, none⟩ = some (.slice A0_2 l0_2.length c0_2) := (blk_cell BK402.out 2).trans rfl
       have hfz28_0 := blk_frozen BK402.out 0
       have hfz28_1 := blk_frozen BK402.out 1
       have hfz28_2 := blk_frozen BK402.out 2
       go_wp2_with (first | ((with_reducible refine gate_callee (f := 14) rfl ?_); refine goesL_ (some 21) rfl rfl Tryd.func14 (by kernel_rfl) rfl #[.agg #[.int .i64 a0_0, .slice A0_1 l0_1.length c0_1, .slice A0_2 l0_2.length c0_2]] rfl (by (try simp only [List.map_toArray, List.map_cons, List.map_nil]); first | done | rfl | (simp only [List.length_drop, List.length_take]; rfl)) ?_; (with_reducible refine (cattext_Print.calls (hT := Tabs.below HTAB.out (by repeat (first | (with_reducible first | exact HB.out | apply below_alloc | apply pw_below_drewN | apply below_drew1 | refine below_set ?_ (by assumption)) | exact HB.out))) a0_0 _ _ l0_1 _ _ l0_2 t407 _ ?side1 ?side2 ?side3 ?side4 A21.out).mono ?_); (case side1 => repeat (first | exact (Kd.C_below HR0_1.out HB.out) | (with_reducible refine Kd.C_alloc ?_ _) | (with_reducible refine Kd.C_drewN ?_ _) | (with_reducible refine Kd.C_drew ?_))); (case side2 => exact HC0_1.out); (case side3 => repeat (first | exact (Kd.C_below HR0_2.out HB.out) | (with_reducible refine Kd.C_alloc ?_ _) | (with_reducible refine Kd.C_drewN ?_ _) | (with_reducible refine Kd.C_drew ?_))); (case side4 => exact HC0_2.out); rintro e w29 ⟨rfl, hb⟩; refine ⟨_, rfl, ?_⟩; have n0_ := Aside0.mk (blk_below (g := gb402) (o := .cells #[.int .i64 a0_0, .slice A0_1 l0_1.length c0_1, .slice A0_2 l0_2.length c0_2] 26 (0, 0)) (by (with_reducible repeat (first | refine blk_drewN ?_ _ | refine blk_drew ?_ | refine blk_alloc ?_ _)); exact BK402.out) hb); have n1_ := Aside0.mk (below_step (by repeat (first | (with_reducible first | exact HB.out | apply below_alloc | apply pw_below_drewN | apply below_drew1 | refine below_set ?_ GE402.out) | exact HB.out)) hb); clear BK402; clear HB; have BK402 := n0_; have HB := n1_; clear n0_ n1_; (try clear hb); (try clear hb2); (try clear hk); (try clear hi)) | ((with_reducible refine gate_callee (f := 9) rfl ?_); refine goesL_ (some 24) rfl rfl Tryd.func9 (by kernel_rfl) rfl #[.string t407] rfl (by (try simp only [List.map_toArray, List.map_cons, List.map_nil]); first | done | rfl | (simp only [List.length_drop, List.length_take]; rfl)) ?_; (with_reducible refine (cattext_Parse.calls (hT := Tabs.below HTAB.out (by repeat (first | (with_reducible first | exact HB.out | apply below_alloc | apply pw_below_drewN | apply below_drew1 | refine below_set ?_ (by assumption)) | exact HB.out))) t407 t408 t409 t412 t415 t416 _ A22.out).mono ?_); rintro e w30 ⟨v410, v413, rfl, ho0, ho1, hb⟩; refine ⟨_, rfl, ?_⟩; have n0_ := Aside0.mk (Kd.R_lower ho0 (below_size (by repeat (first | (with_reducible first | exact HB.out | apply below_alloc | apply pw_below_drewN | apply below_drew1 | refine below_set ?_ GE402.out) | exact HB.out)))); have n1_ := Aside0.mk (Kd.R_lower ho1 (below_size (by repeat (first | (with_reducible first | exact HB.out | apply below_alloc | apply pw_below_drewN | apply below_drew1 | refine below_set ?_ GE402.out) | exact HB.out)))); have n2_ := Aside0.mk (blk_below (g := gb402) (o := .cells #[.int .i64 a0_0, .slice A0_1 l0_1.length c0_1, .slice A0_2 l0_2.length c0_2] 26 (0, 0)) (by (with_reducible repeat (first | refine blk_drewN ?_ _ | refine blk_drew ?_ | refine blk_alloc ?_ _)); exact BK402.out) hb); have n3_ := Aside0.mk (below_step (by repeat (first | (with_reducible first | exact HB.out | apply below_alloc | apply pw_below_drewN | apply below_drew1 | refine below_set ?_ GE402.out) | exact HB.out)) hb); clear BK402; clear HB; have HO411 := n0_; have HO414 := n1_; have BK402 := n2_; have HB := n3_; clear n0_ n1_ n2_ n3_; (try clear hb); (try clear hb2); (try clear hk); (try clear hi); (try clear ho0); (try clear ho1)) | ((with_reducible refine gate_dst (N := 4) rfl ?_); refine box_event ?hg (N := 4) ?hd (cs := #[.int .i64 0, .slice none 0 0, .slice none 0 0]) (t := 26) ?hr ?_; (case hd => rfl); (case hg => rfl); (case hr => first | (go_simp; done) | (go_simp; rfl)); intro gb417 hg w31 hbox hb; have n0_ := Aside0.mk (Kd.R_below (by (with_reducible repeat (first | apply Kd.R_alloc | apply Kd.R_drewN | apply Kd.R_drew)); exact HO411.out) hb); have n1_ := Aside0.mk (Kd.R_below (by (with_reducible repeat (first | apply Kd.R_alloc | apply Kd.R_drewN | apply Kd.R_drew)); exact HO414.out) hb); have n2_ := Aside0.mk (blk_below (g := gb402) (o := .cells #[.int .i64 a0_0, .slice A0_1 l0_1.length c0_1, .slice A0_2 l0_2.length c0_2] 26 (0, 0)) (by (with_reducible repeat (first | refine blk_drewN ?_ _ | refine blk_drew ?_ | refine blk_alloc ?_ _)); exact BK402.out) hb); have n3_ := Aside0.mk (below_step (by repeat (first | (with_reducible first | exact HB.out | apply below_alloc | apply pw_below_drewN | apply below_drew1 | refine below_set ?_ GE402.out) | exact HB.out)) hb); have n4_ := Aside0.mk (hbox); have n5_ := Aside0.mk ((by rw [hg]; exact (below_size (by repeat (first | (with_reducible first | exact HB.out | apply below_alloc | apply pw_below_drewN | apply below_drew1 | refine below_set ?_ GE402.out) | exact HB.out))) : w.heap.size ≤ gb417)); have n6_ := Aside0.mk ((by rw [hg]; exact (below_size (by repeat (first | (with_reducible first | exact HB.out | apply below_alloc | apply pw_below_drewN | apply below_drew1 | refine below_set ?_ GE402.out) | exact HB.out))) : w.heap.size ≤ gb417)); have n7_ := Aside0.mk ((by rw [hg]; exact Nat.ne_of_lt (blk_lt (g := gb402) (o := .cells #[.int .i64 a0_0, .slice A0_1 l0_1.length c0_1, .slice A0_2 l0_2.length c0_2] 26 (0, 0)) (by (with_reducible repeat (first | refine blk_drewN ?_ _ | refine blk_drew ?_ | refine blk_alloc ?_ _)); exact BK402.out)) : gb402 ≠ gb417)); have n8_ := Aside0.mk ((by rw [hg]; exact Nat.ne_of_gt (blk_lt (g := gb402) (o := .cells #[.int .i64 a0_0, .slice A0_1 l0_1.length c0_1, .slice A0_2 l0_2.length c0_2] 26 (0, 0)) (by (with_reducible repeat (first | refine blk_drewN ?_ _ | refine blk_drew ?_ | refine blk_alloc ?_ _)); exact BK402.out)) : gb417 ≠ gb402)); clear HO411; clear HO414; clear BK402; clear HB; have HO411 := n0_; have HO414 := n1_; have BK402 := n2_; have HB := n3_; have BK417 := n4_; have GW417 := n5_; have GE417 := n6_; have NB402_417 := n7_; have NB417_402 := n8_; clear n0_ n1_ n2_ n3_ n4_ n5_ n6_ n7_ n8_; clear hb hbox hg; have hnb32 := NB417_402.out; have hnc32 := NB402_417.out; have hcz33_0 : w31.cell? ⟨gb417, 0, none⟩ = some (.int .i64 0) := (blk_cell BK417.out 0).trans rfl; have hcz33_1 : w31.cell? ⟨gb417, 1, none⟩ = some (.slice none 0 0) := (blk_cell BK417.out 1).trans rfl; have hcz33_2 : w31.cell? ⟨gb417, 2, none⟩ = some (.slice none 0 0) := (blk_cell BK417.out 2).trans rfl; have hfz33_0 := blk_frozen BK417.out 0; have hfz33_1 := blk_frozen BK417.out 1; have hfz33_2 := blk_frozen BK417.out 2; obtain ⟨Ao34, co34, eo34⟩ := Kd.R_slice HO411.out; subst eo34; obtain ⟨Ao35, co35, eo35⟩ := Kd.R_slice HO414.out; subst eo35; have hcz36_0 : w31.cell? ⟨gb402, 0, none⟩ = some (.int .i64 a0_0) := (blk_cell BK402.out 0).trans rfl; have hcz36_1 : w31.cell? ⟨gb402, 1, none⟩ = some (.slice A0_1 l0_1.length c0_1) := (blk_cell BK402.out 1).trans rfl; have hcz36_2 : w31.cell? ⟨gb402, 2, none⟩ = some (.slice A0_2 l0_2.length c0_2) := (blk_cell BK402.out 2).trans rfl; have hfz36_0 := blk_frozen BK402.out 0; have hfz36_1 := blk_frozen BK402.out 1; have hfz36_2 := blk_frozen BK402.out 2) | ((with_reducible refine gate_callee (f := 15) rfl ?_); refine goesL_ (some 30) rfl rfl Tryd.func15 (by kernel_rfl) rfl #[.agg #[.int .i64 a0_0, .slice A0_1 l0_1.length c0_1, .slice A0_2 l0_2.length c0_2]] rfl (by (try simp only [List.map_toArray, List.map_cons, List.map_nil]); first | done | rfl | (simp only [List.length_drop, List.length_take]; rfl)) ?_; (with_reducible refine (computusref26_Print.calls kj1 a0_0 _ _ l0_1 _ _ l0_2 t418 _ ?side1 ?side2 ?side3 ?side4 A23.out).mono ?_); (case side1 => exact Kd.C_below HR0_1.out (by repeat (first | (with_reducible first | exact HB.out | apply below_alloc | apply pw_below_drewN | apply below_drew1 | refine below_set ?_ GE402.out | refine below_set ?_ GE417.out) | exact HB.out))); (case side2 => exact HC0_1.out); (case side3 => exact Kd.C_below HR0_2.out (by repeat (first | (with_reducible first | exact HB.out | apply below_alloc | apply pw_below_drewN | apply below_drew1 | refine below_set ?_ GE402.out | refine below_set ?_ GE417.out) | exact HB.out))); (case side4 => exact HC0_2.out); rintro e w37 ⟨rfl, hb⟩; refine ⟨_, rfl, ?_⟩; have n0_ := Aside0.mk (Kd.R_below (by (with_reducible repeat (first | apply Kd.R_alloc | apply Kd.R_drewN | apply Kd.R_drew)); exact (Kd.R_mono (Kd.R_far (p := ⟨gb417, 2, none⟩) (Kd.R_far (p := ⟨gb417, 1, none⟩) (Kd.R_far (p := ⟨gb417, 0, none⟩) (Kd.R_types HO411.out BK417.out (by decide)) (fun _ hk => hk.2) (.int .i64 t408)) (fun _ hk => hk.2) (.slice Ao34 t409.length co34)) (fun _ hk => hk.2) (.slice Ao35 t412.length co35)) (fun _ h_ => h_.1))) hb); have n1_ := Aside0.mk (Kd.R_below (by (with_reducible repeat (first | apply Kd.R_alloc | apply Kd.R_drewN | apply Kd.R_drew)); exact (Kd.R_mono (Kd.R_far (p := ⟨gb417, 2, none⟩) (Kd.R_far (p := ⟨gb417, 1, none⟩) (Kd.R_far (p := ⟨gb417, 0, none⟩) (Kd.R_types HO414.out BK417.out (by decide)) (fun _ hk => hk.2) (.int .i64 t408)) (fun _ hk => hk.2) (.slice Ao34 t409.length co34)) (fun _ hk => hk.2) (.slice Ao35 t412.length co35)) (fun _ h_ => h_.1))) hb); have n2_ := Aside0.mk (blk_below (g := gb402) (o := .cells #[.int .i64 a0_0, .slice A0_1 l0_1.length c0_1, .slice A0_2 l0_2.length c0_2] 26 (0, 0)) (by (with_reducible repeat (first | refine blk_drewN ?_ _ | refine blk_drew ?_ | refine blk_alloc ?_ _)); refine blk_far ?_ NB402_417.out _; (with_reducible repeat (first | refine blk_drewN ?_ _ | refine blk_drew ?_ | refine blk_alloc ?_ _)); refine blk_far ?_ NB402_417.out _; (with_reducible repeat (first | refine blk_drewN ?_ _ | refine blk_drew ?_ | refine blk_alloc ?_ _)); refine blk_far ?_ NB402_417.out _; (with_reducible repeat (first | refine blk_drewN ?_ _ | refine blk_drew ?_ | refine blk_alloc ?_ _)); exact BK402.out) hb); have n3_ := Aside0.mk (blk_below (g := gb417) (o := .cells #[.int .i64 t408, .slice Ao34 t409.length co34, .slice Ao35 t412.length co35] 26 (0, 0)) (by (with_reducible repeat (first | refine blk_drewN ?_ _ | refine blk_drew ?_ | refine blk_alloc ?_ _)); refine blk_put (cs := #[.int .i64 t408, .slice Ao34 t409.length co34, .slice none 0 0]) ?_ 2 _ rfl; (with_reducible repeat (first | refine blk_drewN ?_ _ | refine blk_drew ?_ | refine blk_alloc ?_ _)); refine blk_put (cs := #[.int .i64 t408, .slice none 0 0, .slice none 0 0]) ?_ 1 _ rfl; (with_reducible repeat (first | refine blk_drewN ?_ _ | refine blk_drew ?_ | refine blk_alloc ?_ _)); refine blk_put (cs := #[.int .i64 0, .slice none 0 0, .slice none 0 0]) ?_ 0 _ rfl; (with_reducible repeat (first | refine blk_drewN ?_ _ | refine blk_drew ?_ | refine blk_alloc ?_ _)); exact BK417.out) hb); have n4_ := Aside0.mk (below_step (by repeat (first | (with_reducible first | exact HB.out | apply below_alloc | apply pw_below_drewN | apply below_drew1 | refine below_set ?_ GE402.out | refine below_set ?_ GE417.out) | exact HB.out)) hb); clear HO411; clear HO414; clear BK402; clear BK417; clear HB; have HO411 := n0_; have HO414 := n1_; have BK402 := n2_; have BK417 := n3_; have HB := n4_; clear n0_ n1_ n2_ n3_ n4_; (try clear hb); (try clear hb2); (try clear hk); (try clear hi); have hcz38_0 : w37.cell? ⟨gb402, 0, none⟩ = some (.int .i64 a0_0) := (blk_cell BK402.out 0).trans rfl; have hcz38_1 : w37.cell? ⟨gb402, 1, none⟩ = some (.slice A0_1 l0_1.length c0_1) := (blk_cell BK402.out 1).trans rfl; have hcz38_2 : w37.cell? ⟨gb402, 2, none⟩ = some (.slice A0_2 l0_2.length c0_2) := (blk_cell BK402.out 2).trans rfl; have hfz38_0 := blk_frozen BK402.out 0; have hfz38_1 := blk_frozen BK402.out 1; have hfz38_2 := blk_frozen BK402.out 2; have hcz39_0 : w37.cell? ⟨gb417, 0, none⟩ = some (.int .i64 t408) := (blk_cell BK417.out 0).trans rfl; have hcz39_1 : w37.cell? ⟨gb417, 1, none⟩ = some (.slice Ao34 t409.length co34) := (blk_cell BK417.out 1).trans rfl; have hcz39_2 : w37.cell? ⟨gb417, 2, none⟩ = some (.slice Ao35 t412.length co35) := (blk_cell BK417.out 2).trans rfl; have hfz39_0 := blk_frozen BK417.out 0; have hfz39_1 := blk_frozen BK417.out 1; have hfz39_2 := blk_frozen BK417.out 2) | (go_at_call 11; (with_reducible refine (computusref17_Same.calls kj1 a0_0 _ _ l0_1 _ _ l0_2 t408 _ _ t409 _ _ t412 true _ ?side1 ?side2 ?side3 ?side4 ?side5 ?side6 ?side7 ?side8 A25.out).mono ?_); (case side1 => repeat (first | exact (Kd.C_below HR0_1.out HB.out) | (with_reducible refine Kd.C_alloc ?_ _) | (with_reducible refine Kd.C_drewN ?_ _) | (with_reducible refine Kd.C_drew ?_))); (case side2 => exact HC0_1.out); (case side3 => repeat (first | exact (Kd.C_below HR0_2.out HB.out) | (with_reducible refine Kd.C_alloc ?_ _) | (with_reducible refine Kd.C_drewN ?_ _) | (with_reducible refine Kd.C_drew ?_))); (case side4 => exact HC0_2.out); (case side5 => repeat (first | exact (Kd.R_reads' HO411.out).2.2 | (with_reducible refine Kd.C_alloc ?_ _) | (with_reducible refine Kd.C_drewN ?_ _) | (with_reducible refine Kd.C_drew ?_))); (case side6 => exact (Kd.R_reads' HO411.out).2.1); (case side7 => repeat (first | exact (Kd.R_reads' HO414.out).2.2 | (with_reducible refine Kd.C_alloc ?_ _) | (with_reducible refine Kd.C_drewN ?_ _) | (with_reducible refine Kd.C_drew ?_))); (case side8 => exact (Kd.R_reads' HO414.out).2.1); rintro e w40 ⟨rfl, hb⟩; have n0_ := Aside0.mk (Kd.R_below (by (with_reducible repeat (first | apply Kd.R_alloc | apply Kd.R_drewN | apply Kd.R_drew)); exact HO411.out) hb); have n1_ := Aside0.mk (Kd.R_below (by (with_reducible repeat (first | apply Kd.R_alloc | apply Kd.R_drewN | apply Kd.R_drew)); exact HO414.out) hb); have n2_ := Aside0.mk (blk_below (g := gb402) (o := .cells #[.int .i64 a0_0, .slice A0_1 l0_1.length c0_1, .slice A0_2 l0_2.length c0_2] 26 (0, 0)) (by (with_reducible repeat (first | refine blk_drewN ?_ _ | refine blk_drew ?_ | refine blk_alloc ?_ _)); exact BK402.out) hb); have n3_ := Aside0.mk (blk_below (g := gb417) (o := .cells #[.int .i64 t408, .slice Ao34 t409.length co34, .slice Ao35 t412.length co35] 26 (0, 0)) (by (with_reducible repeat (first | refine blk_drewN ?_ _ | refine blk_drew ?_ | refine blk_alloc ?_ _)); exact BK417.out) hb); have n4_ := Aside0.mk (below_step (by repeat (first | (with_reducible first | exact HB.out | apply below_alloc | apply pw_below_drewN | apply below_drew1 | refine below_set ?_ GE402.out | refine below_set ?_ GE417.out) | exact HB.out)) hb); clear HO411; clear HO414; clear BK402; clear BK417; clear HB; have HO411 := n0_; have HO414 := n1_; have BK402 := n2_; have BK417 := n3_; have HB := n4_; clear n0_ n1_ n2_ n3_ n4_; (try clear hb); (try clear hb2); (try clear hk); (try clear hi)))
       go_ret
       exact ⟨by first | rfl | (simp [errW_none, errW_some] <;> rfl) | (simp [*, errW_none, errW_some] <;> rfl), by repeat (first | (with_reducible first | exact HB.out | apply below_alloc | apply pw_below_drewN | apply below_drew1 | refine below_set ?_ GE402.out | refine below_set ?_ GE417.out) | exact HB.out)⟩
      ·rw [if_neg c27] at H
       exact absurd H (by simp)
     ·replace c26 := Bool.eq_false_iff.mpr c26
      subst c26
      have H1 : (none) = some r := by rw [if_neg (show ¬ (false = true) by decide)] at H; exact H
      clear H
      have H := H1
      clear H1
      exact absurd H (by simp)
    ·rw [if_neg c24] at H
     exact absurd H (by simp)
def computuslaw26_CattextCanonical.Pure : Prop := ∀ (a0_0 : Int) (l0_1 : List (S41)) (l0_2 : List (S43)), (Lit.int .i64 a0_0).wf = true → l0_1.length ≤ maxLen → (∀ x ∈ l0_1, wf41 x) → l0_2.length ≤ maxLen → (∀ x ∈ l0_2, wf43 x) → ∃ k, computuslaw26_CattextCanonical.f k a0_0 l0_1 l0_2 = some true

end Go.Proofs.YtlfokdbnbmebiaaDoor.Q
end
section
namespace Go.Proofs.YtlfokdbnbmebiaaDoor.Q
open Go.RowKit Go.Proofs.YtlfokdbnbmebiaaDoorW.PrintWords Go.Proofs.YtlfokdbnbmebiaaDoorW.PrintLast
set_option maxRecDepth 100000
theorem aw26 : computuslaw26_awake.f = some true := by decide +kernel
theorem same_l1 (fr : Int) (ls : List S41) (lf : List S43) (h : lf.length ≤ 1000000000) : ∀ d i : Nat, i + d = lf.length → Ev (fun k => computusref17_Same.l1 k (i : Int) fr ls lf fr ls lf) true
 | 0, i, hi => Ev.step (fun k => computusref17_Same.l1.eq_2 ..) (Ev.congr (fun k => if_neg (by omega)) (Ev.now _))
 | d + 1, i, hi => by
  refine Ev.step (fun k => computusref17_Same.l1.eq_2 ..) (Ev.congr (fun k => (if_pos (by omega)).trans ((if_pos (by omega)).trans ((if_pos (by omega)).trans (if_neg (by simp))))) ?_)
  rw [wN i (by omega)]
  exact same_l1 fr ls lf h d (i + 1) (by omega)
theorem same_l0 (fr : Int) (ls : List S41) (lf : List S43) (h : lf.length ≤ 1000000000) (h2 : ls.length ≤ 1000000000) : ∀ d i : Nat, i + d = ls.length → Ev (fun k => computusref17_Same.l0 k (i : Int) fr ls lf fr ls lf) true
 | 0, i, hi => Ev.step (fun k => computusref17_Same.l0.eq_2 ..) (Ev.congr (fun k => if_neg (by omega)) (same_l1 fr ls lf h lf.length 0 (by omega)))
 | d + 1, i, hi => by
  refine Ev.step (fun k => computusref17_Same.l0.eq_2 ..) (Ev.congr (fun k => (if_pos (by omega)).trans ((if_pos (by omega)).trans ((if_pos (by omega)).trans (if_neg (by simp))))) ?_)
  rw [wN i (by omega)]
  exact same_l0 fr ls lf h h2 d (i + 1) (by omega)
theorem same_ev (fr : Int) (ls : List S41) (lf : List S43) (h : lf.length ≤ 1000000000) (h2 : ls.length ≤ 1000000000) : Ev (fun k => computusref17_Same.f k fr ls lf fr ls lf) true := by
 unfold computusref17_Same.f
 refine Ev.congr (fun k => (if_pos rfl).trans (if_pos rfl)) ?_
 refine Ev.step (fun k => computusref17_Same.j0.eq_2 ..) (Ev.congr (fun k => if_neg (by simp)) (same_l0 fr ls lf h h2 ls.length 0 (by omega)))
end Go.Proofs.YtlfokdbnbmebiaaDoor.Q
namespace Go.Proofs.YtlfokdbnbmebiaaDoor.Pure
open Go.RowKit Go.Proofs.YtlfokdbnbmebiaaDoorW.PrintWords Go.Proofs.YtlfokdbnbmebiaaDoorW.PrintLast Go.Proofs.YtlfokdbnbmebiaaDoor.Q
end Go.Proofs.YtlfokdbnbmebiaaDoor.Pure
end
section
namespace Go.Proofs.YtlfokdbnbmebiaaDoor.Q
open Go.RowKit Go.Proofs.YtlfokdbnbmebiaaDoorW.PrintWords Go.Proofs.YtlfokdbnbmebiaaDoorW.PrintLast
set_option maxRecDepth 100000
def inN (n : Int) : Bool := decide (-9999999999 ≤ n) && decide (n ≤ 9999999999)
theorem inN_iff {n : Int} : inN n = true ↔ -9999999999 ≤ n ∧ n ≤ 9999999999 := by simp [inN]
theorem in_ev (n : Int) : computusref26_In.f n = some (inN n) := by
 unfold computusref26_In.f inN
 by_cases h : -9999999999 ≤ n
 ·rw [if_pos h]; simp [h]
 ·rw [if_neg h]; simp [h]
def anK (a : S39) : Bool :=
 if a.f0 = 1 then a.f3 == 0 && (a.f4 == 0 && a.f5 == 0) else if a.f0 = 2 then a.f1 == 0 && (a.f2 == 0 && (a.f4 == 0 && a.f5 == 0)) else if a.f0 = 3 then a.f3 == 0 && (decide (0 ≤ a.f4) && decide (a.f4 ≤ 6)) else false
def anB (a : S39) : Bool := inN a.f1 && (inN a.f2 && (inN a.f3 && (inN a.f5 && anK a)))
theorem an_j0 (b : Bool) (a : S39) (k : Nat) : computusref26_printableAnchor.j0 (k + 1) b a.f0 a.f1 a.f2 a.f3 a.f4 a.f5 = some (!b && anK a) := by
 rw [computusref26_printableAnchor.j0, anK]
 cases b with
 | true => rfl
 | false =>
  rw [if_neg (by decide), Bool.not_false, Bool.true_and]
  by_cases h1 : a.f0 = 1
  ·rw [if_pos h1, if_pos h1]
   by_cases h3 : a.f3 = 0 <;> by_cases h4 : a.f4 = 0 <;> simp [h3, h4]
  ·rw [if_neg h1, if_neg h1]
   by_cases h2 : a.f0 = 2
   ·rw [if_pos h2, if_pos h2]
    by_cases h3 : a.f1 = 0 <;> by_cases h4 : a.f2 = 0 <;> by_cases h5 : a.f4 = 0 <;> simp [h3, h4, h5]
   ·rw [if_neg h2, if_neg h2]
    by_cases h0 : a.f0 = 3
    ·rw [if_pos h0, if_pos h0]
     by_cases h3 : a.f3 = 0 <;> by_cases h4 : (0 : Int) ≤ a.f4 <;> simp [h3, h4]
    ·rw [if_neg h0, if_neg h0]
theorem an_ev (a : S39) : Ev (fun k => computusref26_printableAnchor.f k a.f0 a.f1 a.f2 a.f3 a.f4 a.f5) (anB a) := by
 refine Ev.step (f := fun _ => some (anB a)) (fun k => ?_) (Ev.now _)
 unfold computusref26_printableAnchor.f anB
 simp only [in_ev, Option.bind_some, an_j0]
 cases inN a.f1 <;> cases inN a.f2 <;> cases inN a.f3 <;> cases inN a.f5 <;> simp
def seB (x : S41) : Bool := idB x.f0 && (inN x.f1 && (inN x.f2 && anB x.f3))
def feB (x : S43) : Bool := idB x.f0 && (inN x.f1 && (decide (1 ≤ x.f2) && (decide (x.f2 ≤ 3) && anB x.f3)))
def prB (fr : Int) (ls : List S41) (lf : List S43) : Bool := ls.all seB && (lf.all feB && inN fr)
theorem rdS {l : List S41} {i : Nat} (h : i < l.length) : rd_T41 l (i : Int) = l[i] := by simp [rd_T41, List.getD, h]
theorem rdF {l : List S43} {i : Nat} (h : i < l.length) : rd_T43 l (i : Int) = l[i] := by simp [rd_T43, List.getD, h]
theorem gate {g : Nat → Option Bool} {f : Nat → Option Bool} {a r : Bool} (h : Ev g a) (hf : a = true → Ev f r) : Ev (fun k => (g k).bind fun t => if t = true then f k else some false) (a && r) := by
 refine Ev.bind h ?_
 cases a with
 | false => exact Ev.congr (fun k => if_neg (by decide)) (Ev.now _)
 | true => exact Ev.congr (fun k => if_pos rfl) (hf rfl)
theorem gin {n : Int} {f : Nat → Option Bool} {r : Bool} (hf : inN n = true → Ev f r) : Ev (fun k => (computusref26_In.f n).bind fun t => if t = true then f k else some false) (inN n && r) :=
 gate (g := fun _ => computusref26_In.f n) (Ev.congr (fun _ => in_ev n) (Ev.now _)) hf
theorem pr_l1 (fr : Int) (ls : List S41) (lf : List S43) (h : lf.length ≤ 1000000000000) : ∀ d i : Nat, i + d = lf.length → Ev (fun k => computusref26_Printable.l1 k (i : Int) fr ls lf) ((lf.drop i).all feB && inN fr)
 | 0, i, hi => by
  rw [List.drop_of_length_le (by omega)]
  refine Ev.step (fun k => computusref26_Printable.l1.eq_2 ..) (Ev.congr (fun k => (if_neg (by omega)).trans ?_) (Ev.now _))
  rw [in_ev]
  simp
 | d + 1, i, hi => by
  have hlt : i < lf.length := by omega
  rw [List.drop_eq_getElem_cons hlt, List.all_cons, Bool.and_assoc]
  refine Ev.step (fun k => computusref26_Printable.l1.eq_2 ..) (Ev.congr (fun k => (if_pos (by omega)).trans (if_pos (by omega))) ?_)
  rw [rdF hlt, wN i (by omega)]
  have ih := pr_l1 fr ls lf h d (i + 1) (by omega)
  generalize lf[i] = x
  unfold feB
  simp only [Bool.and_assoc]
  refine gate (id_ev x.f0) (fun _ => gin (fun _ => ?_))
  by_cases h1 : 1 ≤ x.f2
  ·refine Ev.congr (fun k => if_neg (by omega)) ?_
   rw [decide_eq_true h1, Bool.true_and]
   by_cases h2 : x.f2 ≤ 3
   ·refine Ev.congr (fun k => if_neg (by omega)) ?_
    rw [decide_eq_true h2, Bool.true_and]
    exact gate (an_ev x.f3) (fun _ => ih)
   ·refine Ev.congr (fun k => if_pos (by omega)) ?_
    rw [decide_eq_false h2, Bool.false_and]
    exact Ev.now _
  ·refine Ev.congr (fun k => if_pos (by omega)) ?_
   rw [decide_eq_false h1, Bool.false_and]
   exact Ev.now _
theorem pr_l0 (fr : Int) (ls : List S41) (lf : List S43) (h : lf.length ≤ 1000000000000) (h' : ls.length ≤ 1000000000000) : ∀ d i : Nat, i + d = ls.length → Ev (fun k => computusref26_Printable.l0 k (i : Int) fr ls lf) ((ls.drop i).all seB && (lf.all feB && inN fr))
 | 0, i, hi => by
  rw [List.drop_of_length_le (by omega)]
  refine Ev.step (fun k => computusref26_Printable.l0.eq_2 ..) (Ev.congr (fun k => (if_neg (by omega))) ?_)
  exact pr_l1 fr ls lf h lf.length 0 (by omega)
 | d + 1, i, hi => by
  have hlt : i < ls.length := by omega
  rw [List.drop_eq_getElem_cons hlt, List.all_cons, Bool.and_assoc]
  refine Ev.step (fun k => computusref26_Printable.l0.eq_2 ..) (Ev.congr (fun k => (if_pos (by omega)).trans (if_pos (by omega))) ?_)
  rw [rdS hlt, wN i (by omega)]
  have ih := pr_l0 fr ls lf h h' d (i + 1) (by omega)
  generalize ls[i] = x
  unfold seB
  simp only [Bool.and_assoc]
  exact gate (id_ev x.f0) (fun _ => gin (fun _ => gin (fun _ => gate (an_ev x.f3) (fun _ => ih))))
theorem pr_ev (fr : Int) (ls : List S41) (lf : List S43) (h : lf.length ≤ 1000000000000) (h' : ls.length ≤ 1000000000000) : Ev (fun k => computusref26_Printable.f k fr ls lf) (prB fr ls lf) := by
 unfold computusref26_Printable.f
 exact pr_l0 fr ls lf h h' ls.length 0 (by omega)
theorem inN_I {n : Int} (h : inN n = true) : inI n := by have := inN_iff.1 h; unfold inI; omega
theorem anK_ok {a : S39} (h : anK a = true) : okK a.f0 := by
 unfold anK at h
 unfold okK
 split at h
 ·exact .inl (by assumption)
 ·split at h
  ·exact .inr (.inl (by assumption))
  ·split at h
   ·exact .inr (.inr (by assumption))
   ·exact absurd h (by decide)
theorem anB_in {a : S39} (h : anB a = true) : inA a := by
 simp only [anB, Bool.and_eq_true] at h
 exact ⟨anK_ok h.2.2.2.2, inN_I h.1, inN_I h.2.1, inN_I h.2.2.1, inN_I h.2.2.2.1⟩
theorem idB_size {t : ByteArray} (h : idB t = true) : 1 ≤ t.size ∧ t.size ≤ 40 := by
 unfold idB at h
 rw [Bool.and_eq_true] at h
 exact of_decide_eq_true h.1
theorem seB_ok {x : S41} (h : seB x = true) : okS x := by
 simp only [seB, Bool.and_eq_true] at h
 exact ⟨by have := idB_size h.1; omega, inN_I h.2.1, inN_I h.2.2.1, anB_in h.2.2.2⟩
theorem feB_ok {x : S43} (h : feB x = true) : okF x := by
 simp only [feB, Bool.and_eq_true, decide_eq_true_eq] at h
 exact ⟨by have := idB_size h.1; omega, inN_I h.2.1, ⟨h.2.2.1, h.2.2.2.1⟩, anB_in h.2.2.2.2⟩
theorem prB_ok {fr : Int} {ls : List S41} {lf : List S43} (h : prB fr ls lf = true) (hl : ls.length ≤ 1000000) (hf : lf.length ≤ 1000000) : okC fr ls lf := by
 simp only [prB, Bool.and_eq_true, List.all_eq_true] at h
 exact ⟨inN_I h.2.2, hl, hf, fun x hx => seB_ok (h.1 x hx), fun x hx => feB_ok (h.2.1 x hx)⟩
end Go.Proofs.YtlfokdbnbmebiaaDoor.Q
end
section
namespace Go.Proofs.YtlfokdbnbmebiaaDoor.Q
open Go.RowKit Go.Proofs.YtlfokdbnbmebiaaDoorW.PrintWords Go.Proofs.YtlfokdbnbmebiaaDoorW.PrintLast
set_option maxRecDepth 100000
theorem ff' {p : Prop} (h : false = true) : p := by cases h
def Ate (s : ByteArray) (a : Nat) (t : List UInt8) (b : Nat) : Prop := b = a + t.length ∧ t <+: s.data.toList.drop a
theorem Ate.trans {s : ByteArray} {a b c : Nat} {t u : List UInt8} (h : Ate s a t b) (k : Ate s b u c) : Ate s a (t ++ u) c := by
 obtain ⟨rfl, r, hr⟩ := h
 obtain ⟨rfl, q, hq⟩ := k
 refine ⟨by rw [List.length_append]; omega, q, ?_⟩
 rw [← List.drop_drop, ← hr, List.drop_left] at hq
 rw [List.append_assoc, hq, hr]
theorem Ate.all {s : ByteArray} {t : List UInt8} (h : Ate s 0 t s.size) : t = s.data.toList := by
 obtain ⟨h1, h2⟩ := h
 rw [List.drop_zero] at h2
 refine h2.eq_of_length ?_
 have : s.data.toList.length = s.size := Array.length_toList
 omega
theorem lead_iff {s : ByteArray} {i : Nat} (h : scTake s i pLeading = true) : i < s.size ∧ 49 ≤ bt s (i : Int) ∧ bt s (i : Int) ≤ 57 := by
 have := take_iff.1 h
 simp [pLeading] at this
 omega
theorem numB_list (n : Int) : (numB n).data.toList = Lib.itoa n := rfl
end Go.Proofs.YtlfokdbnbmebiaaDoor.Q
end
section
namespace Go.Proofs.YtlfokdbnbmebiaaDoor.Q
open Go.RowKit Go.Proofs.YtlfokdbnbmebiaaDoorW.PrintWords Go.Proofs.YtlfokdbnbmebiaaDoorW.PrintLast
set_option maxRecDepth 100000
def tl (ws : List ByteArray) : List UInt8 := (ws.map fun w => [(32 : UInt8)] ++ w.data.toList).flatten
theorem tl_cons (w : ByteArray) (ws : List ByteArray) : tl (w :: ws) = [32] ++ w.data.toList ++ tl ws := by simp [tl]
theorem tl_append (a b : List ByteArray) : tl (a ++ b) = tl a ++ tl b := by simp [tl]
theorem lineL_tl (w : ByteArray) (ws : List ByteArray) : lineL (w :: ws) = w.data.toList ++ (tl ws ++ [10]) := by
 unfold lineL
 rw [List.map_cons, Lib.join_cons, Lib.joinTail, tl, List.map_map, List.append_assoc]
 rfl
theorem Ate.cons {s : ByteArray} {a b c : Nat} {w : ByteArray} {ws : List ByteArray} (h : Ate s a ([32] ++ w.data.toList) b) (k : Ate s b (tl ws) c) : Ate s a (tl (w :: ws)) c := by
 rw [tl_cons]
 exact h.trans k
theorem Ate.nil (s : ByteArray) (a : Nat) : Ate s a (tl []) a := ⟨by simp [tl], by simp [tl]⟩
theorem wk_get {j : Nat} (hj : j < tDays.length) : wkName (j : Int) = tDays[j] := by
 have h7 : tDays.length = 7 := rfl
 unfold wkName
 rw [if_pos (by omega)]
 simp [List.getD, hj]
end Go.Proofs.YtlfokdbnbmebiaaDoor.Q
end
section
namespace Go.Proofs.YtlfokdbnbmebiaaDoor.Q
open Go.RowKit Go.Proofs.YtlfokdbnbmebiaaDoorW.PrintWords Go.Proofs.YtlfokdbnbmebiaaDoorW.PrintLast
set_option maxRecDepth 100000
theorem sz_mk (a : Array UInt8) : (⟨a⟩ : ByteArray).size = a.size := rfl
theorem dl_app (a b : ByteArray) : (a ++ b).data.toList = a.data.toList ++ b.data.toList := by simp
theorem dl_mk (a : Array UInt8) : (⟨a⟩ : ByteArray).data.toList = a.toList := rfl
theorem ba_ext {a b : ByteArray} (h : a.data.toList = b.data.toList) : a = b := ByteArray.ext (Array.toList_inj.1 h)
theorem dgt_mk : ∀ d, d < 10 → (dgt d).data.toList = [UInt8.ofNat (48 + d)] := by decide +kernel
theorem tmod10 (u : Nat) : Int.tmod (u : Int) 10 = ((u % 10 : Nat) : Int) := rfl
theorem tdiv10 (u : Nat) : Int.tdiv (u : Int) 10 = ((u / 10 : Nat) : Int) := rfl
theorem numB_nat_size {u : Nat} (h : u < 1000000000000000) : (numB (u : Int)).size ≤ 21 := numB_le ⟨by omega, by omega⟩
theorem rdig : ∀ u : Nat, u < 1000000000000000 → Ev (fun k => computusref26_digits.f k (u : Int)) (numB (u : Int)) := by
 intro u
 induction u using Nat.strongRecOn with
 | _ u ih =>
  intro hu
  have hm : u % 10 < 10 := Nat.mod_lt _ (by decide)
  refine Ev.step (fun k => computusref26_digits.f.eq_2 ..) ?_
  rw [tmod10, tdiv10, wN _ (by omega), show wrap64 ((u / 10 : Nat) : Int) = ((u / 10 : Nat) : Int) by unfold wrap64; omega]
  refine Ev.congr (fun k => (if_pos (by omega)).trans ((if_pos (by omega)).trans (if_pos (by omega)))) ?_
  have hd : ((⟨#[48, 49, 50, 51, 52, 53, 54, 55, 56, 57]⟩ : ByteArray).extract (((u % 10 : Nat) : Int)).toNat (((u % 10 + 1 : Nat) : Int)).toNat) = dgt (u % 10) := rfl
  rw [hd]
  by_cases h : u < 10
  ·refine Ev.congr (fun k => (if_pos (by omega)).trans (congrArg some (ba_ext ?_))) (Ev.now _)
   rw [dgt_mk _ hm, numB_list, Lib.itoa_nonneg, Lib.decDigits_one h, Nat.mod_eq_of_lt h]
  ·refine Ev.congr (fun k => if_neg (by omega)) ?_
   have hs := numB_nat_size (u := u / 10) (by omega)
   have hz := (dgt_spec _ hm).1
   refine Ev.bind (ih (u / 10) (by omega) (by omega)) (Ev.congr (fun k => (if_pos (by omega)).trans (congrArg some (ba_ext ?_))) (Ev.now _))
   rw [dl_app, dgt_mk _ hm, numB_list, numB_list, Lib.itoa_nonneg, Lib.itoa_nonneg]
   rw [Lib.decDigits.eq_1 u, dif_neg h]
theorem rNum {n : Int} (h : inN n = true) : Ev (fun k => computusref26_Num.f k n) (numB n) ∧ (numB n).size ≤ 21 := by
 have hn := inN_iff.1 h
 refine ⟨?_, numB_le (inN_I h)⟩
 unfold computusref26_Num.f
 by_cases h0 : n < 0
 ·obtain ⟨u, rfl⟩ : ∃ u : Nat, n = -(u : Int) := ⟨n.natAbs, by omega⟩
  refine Ev.congr (fun k => if_pos h0) ?_
  rw [show wrap64 (-(-(u : Int))) = (u : Int) by unfold wrap64; omega]
  have hs := numB_nat_size (u := u) (by omega)
  refine Ev.bind (rdig u (by omega)) (Ev.congr (fun k => (if_pos (by omega)).trans (congrArg some (ba_ext ?_))) (Ev.now _))
  rw [dl_app, numB_list, numB_list, Lib.itoa_nonneg, Lib.itoa_neg u (by omega)]
  rfl
 ·obtain ⟨u, rfl⟩ : ∃ u : Nat, n = (u : Int) := ⟨n.natAbs, by omega⟩
  refine Ev.congr (fun k => if_neg h0) ?_
  exact Ev.bind (rdig u (by omega)) (Ev.now _)
theorem rName {n : Int} (h : 0 ≤ n ∧ n ≤ 6) : computusref04_Name.f n = some (wkName n) ∧ (wkName n).size ≤ 9 := by
 refine ⟨?_, wkName_le n⟩
 have e : ∀ m : Nat, m < 7 → computusref04_Name.f (m : Int) = some (wkName (m : Int)) := by decide +kernel
 obtain ⟨m, rfl⟩ : ∃ m : Nat, n = (m : Int) := ⟨n.toNat, by omega⟩
 exact e m (by omega)
theorem rAn {a : S39} (h : anB a = true) : ∃ t, Ev (fun k => computusref26_anchor.f k a.f0 a.f1 a.f2 a.f3 a.f4 a.f5) t ∧ [32] ++ t.data.toList = tl (frW a) ∧ t.size ≤ 150 := by
 simp only [anB, Bool.and_eq_true] at h
 obtain ⟨h1, h2, h3, h5, hk⟩ := h
 obtain ⟨e1, s1⟩ := rNum h1
 obtain ⟨e2, s2⟩ := rNum h2
 obtain ⟨e3, s3⟩ := rNum h3
 obtain ⟨e5, s5⟩ := rNum h5
 unfold computusref26_anchor.f frW
 by_cases c1 : a.f0 = 1
 ·rw [if_pos c1]
  refine ⟨_, Ev.congr (fun k => if_pos c1) (Ev.bind e1 (Ev.congr (fun k => (if_pos (by omega)).trans (if_pos (by simp only [ByteArray.size_append, sz_mk, List.size_toArray, List.length_cons, List.length_nil]; omega)))
   (Ev.bind e2 (Ev.congr (fun k => if_pos (by simp only [ByteArray.size_append, sz_mk, List.size_toArray, List.length_cons, List.length_nil]; omega)) (Ev.now _))))), ?_, ?_⟩
  ·simp [tl, dl_app]
  ·simp only [ByteArray.size_append, sz_mk, List.size_toArray, List.length_cons, List.length_nil]; omega
 ·rw [if_neg c1]
  by_cases c2 : a.f0 = 2
  ·rw [if_pos c2]
   refine ⟨_, Ev.congr (fun k => (if_neg c1).trans (if_pos c2)) (Ev.bind e3 (Ev.congr (fun k => if_pos (by omega)) (Ev.now _))), ?_, ?_⟩
   ·simp [tl, dl_app]
   ·simp only [ByteArray.size_append, sz_mk, List.size_toArray, List.length_cons, List.length_nil]; omega
  ·rw [if_neg c2]
   have hw : 0 ≤ a.f4 ∧ a.f4 ≤ 6 := by
    unfold anK at hk
    rw [if_neg c1, if_neg c2] at hk
    split at hk
    ·simp at hk; exact hk.2
    ·exact ff' hk
   obtain ⟨e4, s4⟩ := rName hw
   refine ⟨_, Ev.congr (fun k => (if_neg c1).trans (if_neg c2)) (Ev.bind (Ev.congr (fun k => e4) (Ev.now _)) (Ev.congr (fun k => (if_pos (by omega)).trans (if_pos (by simp only [ByteArray.size_append, sz_mk, List.size_toArray, List.length_cons, List.length_nil]; omega)))
    (Ev.bind e5 (Ev.congr (fun k => (if_pos (by simp only [ByteArray.size_append, sz_mk, List.size_toArray, List.length_cons, List.length_nil]; omega)).trans (if_pos (by simp only [ByteArray.size_append, sz_mk, List.size_toArray, List.length_cons, List.length_nil]; omega)))
    (Ev.bind e1 (Ev.congr (fun k => (if_pos (by simp only [ByteArray.size_append, sz_mk, List.size_toArray, List.length_cons, List.length_nil]; omega)).trans (if_pos (by simp only [ByteArray.size_append, sz_mk, List.size_toArray, List.length_cons, List.length_nil]; omega)))
    (Ev.bind e2 (Ev.congr (fun k => if_pos (by simp only [ByteArray.size_append, sz_mk, List.size_toArray, List.length_cons, List.length_nil]; omega)) (Ev.now _))))))))), ?_, ?_⟩
   ·simp [tl, dl_app]
   ·simp only [ByteArray.size_append, sz_mk, List.size_toArray, List.length_cons, List.length_nil]; omega
end Go.Proofs.YtlfokdbnbmebiaaDoor.Q
end
section
namespace Go.Proofs.YtlfokdbnbmebiaaDoor.Q
open Go.RowKit Go.Proofs.YtlfokdbnbmebiaaDoorW.PrintWords Go.Proofs.YtlfokdbnbmebiaaDoorW.PrintLast
set_option maxRecDepth 100000
theorem rPol {n : Int} (h : 1 ≤ n ∧ n ≤ 3) : computusref26_policy.f n = some (polB n) ∧ (polB n).size ≤ 11 := by
 refine ⟨?_, polB_le h⟩
 have e : ∀ m : Nat, m < 4 → 1 ≤ m → computusref26_policy.f (m : Int) = some (polB (m : Int)) := by decide +kernel
 obtain ⟨m, rfl⟩ : ∃ m : Nat, n = (m : Int) := ⟨n.toNat, by omega⟩
 exact e m (by omega) (by omega)
theorem rpr_l1 (fr : Int) (ls : List S41) (lf : List S43) (hl : lf.length ≤ 1000000) (hok : ∀ x ∈ lf, feB x = true) : ∀ (d i : Nat) (T : ByteArray), i + d = lf.length → T.size ≤ 1000000000000 + i * 1000 →
  ∃ R, Ev (fun k => computusref26_Print.l1 k T (i : Int) fr ls lf) R ∧ R.data.toList = T.data.toList ++ (((lf.drop i).map feaL).flatten ++ endL)
 | 0, i, T, hi, hT => by
  refine ⟨_, Ev.step (fun k => computusref26_Print.l1.eq_2 ..) (Ev.congr (fun k => (if_neg (by omega)).trans (if_pos (by omega))) (Ev.now _)), ?_⟩
  rw [List.drop_of_length_le (by omega), dl_app]
  rfl
 | d + 1, i, T, hi, hT => by
  have hlt : i < lf.length := by omega
  have hx := hok _ (List.getElem_mem hlt)
  have ih := rpr_l1 fr ls lf hl hok d (i + 1)
  have hrd := rdF hlt
  rw [List.drop_eq_getElem_cons hlt, List.map_cons, List.flatten_cons]
  generalize lf[i] = x at hx hrd ⊢
  simp only [feB, Bool.and_eq_true, decide_eq_true_eq] at hx
  obtain ⟨h1, h2, h3, h4, h5⟩ := hx
  have z1 := (idB_size h1).2
  obtain ⟨e2, z2⟩ := rNum h2
  obtain ⟨e3, z3⟩ := rPol ⟨h3, h4⟩
  obtain ⟨t, e5, q5, z5⟩ := rAn h5
  obtain ⟨R, hR, hq⟩ := ih (((((((((T ++ (⟨#[102, 101, 97, 115, 116, 32]⟩ : ByteArray)) ++ x.f0) ++ (⟨#[32]⟩ : ByteArray)) ++ numB x.f1) ++ (⟨#[32]⟩ : ByteArray)) ++ polB x.f2) ++ (⟨#[32]⟩ : ByteArray)) ++ t) ++ (⟨#[10]⟩ : ByteArray)) (by omega)
   (by simp only [ByteArray.size_append, sz_mk, List.size_toArray, List.length_cons, List.length_nil]; omega)
  refine ⟨R, Ev.step (fun k => computusref26_Print.l1.eq_2 ..) ?_, ?_⟩
  ·rw [hrd, wN i (by omega)]
   refine Ev.congr (fun k => (if_pos (by omega)).trans ((if_pos (by omega)).trans ((if_pos (by omega)).trans ((if_pos (by simp only [ByteArray.size_append, sz_mk, List.size_toArray, List.length_cons, List.length_nil]; omega)).trans (if_pos (by simp only [ByteArray.size_append, sz_mk, List.size_toArray, List.length_cons, List.length_nil]; omega)))))) ?_
   refine Ev.bind e2 (Ev.congr (fun k => (if_pos (by simp only [ByteArray.size_append, sz_mk, List.size_toArray, List.length_cons, List.length_nil]; omega)).trans (if_pos (by simp only [ByteArray.size_append, sz_mk, List.size_toArray, List.length_cons, List.length_nil]; omega))) ?_)
   refine Ev.bind (Ev.congr (fun k => e3) (Ev.now _)) (Ev.congr (fun k => (if_pos (by simp only [ByteArray.size_append, sz_mk, List.size_toArray, List.length_cons, List.length_nil]; omega)).trans (if_pos (by simp only [ByteArray.size_append, sz_mk, List.size_toArray, List.length_cons, List.length_nil]; omega))) ?_)
   exact Ev.bind e5 (Ev.congr (fun k => (if_pos (by simp only [ByteArray.size_append, sz_mk, List.size_toArray, List.length_cons, List.length_nil]; omega)).trans (if_pos (by simp only [ByteArray.size_append, sz_mk, List.size_toArray, List.length_cons, List.length_nil]; omega))) hR)
  ·rw [hq, feaL, feaW, List.cons_append, lineL_tl, tl_append, ← q5]
   simp [tl, dl_app]
theorem rpr_l0 (fr : Int) (ls : List S41) (lf : List S43) (hl : lf.length ≤ 1000000) (hok : ∀ x ∈ lf, feB x = true) (hl' : ls.length ≤ 1000000) (hok' : ∀ x ∈ ls, seB x = true) : ∀ (d i : Nat) (T : ByteArray), i + d = ls.length → T.size ≤ 1000 + i * 1000 →
  ∃ R, Ev (fun k => computusref26_Print.l0 k T (i : Int) fr ls lf) R ∧ R.data.toList = T.data.toList ++ (((ls.drop i).map seaL).flatten ++ ((lf.map feaL).flatten ++ endL))
 | 0, i, T, hi, hT => by
  obtain ⟨R, hR, hq⟩ := rpr_l1 fr ls lf hl hok lf.length 0 T (by omega) (by omega)
  refine ⟨R, Ev.step (fun k => computusref26_Print.l0.eq_2 ..) (Ev.congr (fun k => if_neg (by omega)) hR), ?_⟩
  have e : ls.drop i = [] := List.drop_of_length_le (by omega)
  rw [hq, e, List.drop_zero]
  rfl
 | d + 1, i, T, hi, hT => by
  have hlt : i < ls.length := by omega
  have hx := hok' _ (List.getElem_mem hlt)
  have ih := rpr_l0 fr ls lf hl hok hl' hok' d (i + 1)
  have hrd := rdS hlt
  rw [List.drop_eq_getElem_cons hlt, List.map_cons, List.flatten_cons]
  generalize ls[i] = x at hx hrd ⊢
  simp only [seB, Bool.and_eq_true, decide_eq_true_eq] at hx
  obtain ⟨h1, h2, h3, h5⟩ := hx
  have z1 := (idB_size h1).2
  obtain ⟨e2, z2⟩ := rNum h2
  obtain ⟨e3, z3⟩ := rNum h3
  obtain ⟨t, e5, q5, z5⟩ := rAn h5
  obtain ⟨R, hR, hq⟩ := ih (((((((((T ++ (⟨#[115, 101, 97, 115, 111, 110, 32]⟩ : ByteArray)) ++ x.f0) ++ (⟨#[32]⟩ : ByteArray)) ++ numB x.f1) ++ (⟨#[32]⟩ : ByteArray)) ++ numB x.f2) ++ (⟨#[32]⟩ : ByteArray)) ++ t) ++ (⟨#[10]⟩ : ByteArray)) (by omega)
   (by simp only [ByteArray.size_append, sz_mk, List.size_toArray, List.length_cons, List.length_nil]; omega)
  refine ⟨R, Ev.step (fun k => computusref26_Print.l0.eq_2 ..) ?_, ?_⟩
  ·rw [hrd, wN i (by omega)]
   refine Ev.congr (fun k => (if_pos (by omega)).trans ((if_pos (by omega)).trans ((if_pos (by omega)).trans ((if_pos (by simp only [ByteArray.size_append, sz_mk, List.size_toArray, List.length_cons, List.length_nil]; omega)).trans (if_pos (by simp only [ByteArray.size_append, sz_mk, List.size_toArray, List.length_cons, List.length_nil]; omega)))))) ?_
   refine Ev.bind e2 (Ev.congr (fun k => (if_pos (by simp only [ByteArray.size_append, sz_mk, List.size_toArray, List.length_cons, List.length_nil]; omega)).trans (if_pos (by simp only [ByteArray.size_append, sz_mk, List.size_toArray, List.length_cons, List.length_nil]; omega))) ?_)
   refine Ev.bind e3 (Ev.congr (fun k => (if_pos (by simp only [ByteArray.size_append, sz_mk, List.size_toArray, List.length_cons, List.length_nil]; omega)).trans (if_pos (by simp only [ByteArray.size_append, sz_mk, List.size_toArray, List.length_cons, List.length_nil]; omega))) ?_)
   exact Ev.bind e5 (Ev.congr (fun k => (if_pos (by simp only [ByteArray.size_append, sz_mk, List.size_toArray, List.length_cons, List.length_nil]; omega)).trans (if_pos (by simp only [ByteArray.size_append, sz_mk, List.size_toArray, List.length_cons, List.length_nil]; omega))) hR)
  ·rw [hq, seaL, seaW, List.cons_append, lineL_tl, tl_append, ← q5]
   simp [tl, dl_app]
theorem top_tl (fr : Int) : topL fr = [99, 97, 116, 97, 108, 111, 103, 117, 101, 10, 102, 114, 101, 101, 32] ++ ((numB fr).data.toList ++ [10]) := by
 unfold topL
 rw [lineL_tl, lineL_tl]
 simp [tl]
theorem rPrint {fr : Int} {ls : List S41} {lf : List S43} (h : prB fr ls lf = true) (hl' : ls.length ≤ 1000000) (hl : lf.length ≤ 1000000) : Ev (fun k => computusref26_Print.f k fr ls lf) ⟨(catT fr ls lf).toArray⟩ := by
 simp only [prB, Bool.and_eq_true, List.all_eq_true] at h
 obtain ⟨h1, h2, h3⟩ := h
 obtain ⟨e3, z3⟩ := rNum h3
 obtain ⟨R, hR, hq⟩ := rpr_l0 fr ls lf hl h2 hl' h1 ls.length 0 (((⟨#[99, 97, 116, 97, 108, 111, 103, 117, 101, 10, 102, 114, 101, 101, 32]⟩ : ByteArray) ++ numB fr) ++ (⟨#[10]⟩ : ByteArray)) (by omega)
  (by simp only [ByteArray.size_append, sz_mk, List.size_toArray, List.length_cons, List.length_nil]; omega)
 have hRe : R = ⟨(catT fr ls lf).toArray⟩ := ba_ext (by
  rw [hq, dl_mk, List.toList_toArray, catT, top_tl]
  simp [dl_app])
 rw [← hRe]
 unfold computusref26_Print.f
 exact Ev.bind e3 (Ev.congr (fun k => (if_pos (by omega)).trans (if_pos (by simp only [ByteArray.size_append, sz_mk, List.size_toArray, List.length_cons, List.length_nil]; omega))) hR)
end Go.Proofs.YtlfokdbnbmebiaaDoor.Q
end
section
namespace Go.Proofs.YtlfokdbnbmebiaaDoor.Q
open Go.RowKit Go.Proofs.YtlfokdbnbmebiaaDoorW.PrintWords Go.Proofs.YtlfokdbnbmebiaaDoorW.PrintLast
set_option maxRecDepth 100000
def Rest (s : ByteArray) (a : Nat) (u : List UInt8) : Prop := a ≤ s.size ∧ s.data.toList.drop a = u
theorem bt_get {s : ByteArray} {i : Nat} {b : UInt8} (h : s.data.toList[i]? = some b) : i < s.size ∧ bt s (i : Int) = (b.toNat : Int) := by
 obtain ⟨hi, e⟩ := List.getElem?_eq_some_iff.1 h
 have hi' : i < s.size := by have : s.data.toList.length = s.size := Array.length_toList; omega
 refine ⟨hi', ?_⟩
 have e2 : bt s (i : Int) = ((s[i]'hi').toNat : Int) := by simp [bt, hi']
 rw [e2, ← e]
 rfl
theorem Rest.at {s : ByteArray} {a : Nat} {t r : List UInt8} (h : Rest s a (t ++ r)) {i : Nat} (hi : i < t.length) : a + i < s.size ∧ bt s ((a + i : Nat) : Int) = (t[i].toNat : Int) := by
 refine bt_get ?_
 rw [← List.getElem?_drop, h.2, List.getElem?_append_left hi, List.getElem?_eq_getElem hi]
theorem Rest.next {s : ByteArray} {a : Nat} {t r : List UInt8} (h : Rest s a (t ++ r)) : Rest s (a + t.length) r := by
 have hl : s.data.toList.length = s.size := Array.length_toList
 have e := h.2
 have hlen := congrArg List.length e
 rw [List.length_drop, List.length_append] at hlen
 refine ⟨by have := h.1; omega, ?_⟩
 rw [← List.drop_drop, e, List.drop_left]
theorem Rest.head {s : ByteArray} {a : Nat} {b : UInt8} {r : List UInt8} (h : Rest s a (b :: r)) : a < s.size ∧ bt s (a : Int) = (b.toNat : Int) := by
 have := Rest.at (t := [b]) (r := r) h (i := 0) (by simp)
 simpa using this
theorem dl_len (w : ByteArray) : w.data.toList.length = w.size := Array.length_toList
theorem Rest.agr {s w : ByteArray} {a : Nat} {r : List UInt8} (h : Rest s a (w.data.toList ++ r)) : agr s a w w.size := by
 have hl := dl_len w
 have hn := h.next.1
 refine ⟨Nat.le_refl _, by omega, fun m hm => ?_⟩
 have h1 := h.at (i := m) (by omega)
 have h2 := bt_get (s := w) (i := m) (List.getElem?_eq_getElem (by omega))
 rw [h1.2, h2.2]
theorem rdW1 {s : ByteArray} {l : List ByteArray} (hl : Wds l) {a : Nat} {k : Nat} (hk : k < l.length) {r : List UInt8} (h : Rest s a ((l[k]).data.toList ++ r)) : scW s l (a, false) = ((k : Int), (a + (l[k]).size, false)) ∧ Rest s (a + (l[k]).size) r := by
 have hn := h.next
 rw [dl_len] at hn
 have hc := (agr_iff (w := l[k]) h.1 _).1 h.agr
 have hle := (com_le (w := l[k]) h.1).1
 exact ⟨scW_of hl rfl h.1 (.inl ⟨k, hk, by show com s a l[k] = _; omega, rfl⟩), hn⟩
theorem rdSp {s : ByteArray} {a : Nat} {r : List UInt8} (h : Rest s a ([32] ++ r)) : scW s wSp (a, false) = (0, (a + 1, false)) ∧ Rest s (a + 1) r := rdW1 (k := 0) wdSp (by decide) h
theorem rdNl {s : ByteArray} {a : Nat} {r : List UInt8} (h : Rest s a ([10] ++ r)) : scW s wNl (a, false) = (0, (a + 1, false)) ∧ Rest s (a + 1) r := rdW1 (k := 0) wdNl (by decide) h
def NoDig (r : List UInt8) : Prop := ∀ b q, r = b :: q → b.toNat < 48 ∨ 57 < b.toNat
theorem dec_len : ∀ (k u : Nat), u < 10 ^ (k + 1) → (Lib.decDigits u).length ≤ k + 1
 | 0, u, h => by rw [Lib.decDigits_one (by simpa using h)]; simp
 | k + 1, u, h => by
  rw [Lib.decDigits]
  split
  ·simp
  ·have := dec_len k (u / 10) (by rw [Nat.pow_succ] at h; omega)
   rw [List.length_append, List.length_singleton]
   omega
structure DecAt (s : ByteArray) (o n u : Nat) : Prop where
 pos : 0 < n
 le : o + n ≤ s.size
 dig : ∀ i, i < n → 48 ≤ bt s ((o + i : Nat) : Int) ∧ bt s ((o + i : Nat) : Int) ≤ 57
 lead : 0 < u → 49 ≤ bt s (o : Int)
 val : scVal s n o 0 = (u : Int)
theorem dgt_val {d : Nat} (h : d < 10) : ((UInt8.ofNat (48 + d)).toNat : Int) = 48 + (d : Int) := by
 rw [UInt8.toNat_ofNat']
 omega
theorem decAt {s : ByteArray} {o : Nat} : ∀ (u : Nat) (r : List UInt8), Rest s o (Lib.decDigits u ++ r) → DecAt s o (Lib.decDigits u).length u := by
 intro u
 induction u using Nat.strongRecOn with
 | _ u ih =>
  intro r h
  by_cases h10 : u < 10
  ·rw [Lib.decDigits_one h10] at h ⊢
   have h1 := Rest.head h
   rw [dgt_val h10] at h1
   refine ⟨by simp, by simp; omega, fun i hi => ?_, fun hu => by omega, ?_⟩
   ·obtain rfl : i = 0 := by simpa using hi
    rw [Nat.add_zero]; omega
   ·show scVal s 1 o 0 = _
    simp only [scVal]
    omega
  ·have e : Lib.decDigits u = Lib.decDigits (u / 10) ++ [UInt8.ofNat (48 + u % 10)] := by rw [Lib.decDigits.eq_1 u, dif_neg h10]
   rw [e, List.append_assoc] at h
   obtain ⟨p1, p2, p3, p4, p5⟩ := ih (u / 10) (by omega) _ h
   have h1 := Rest.head h.next
   have hm : u % 10 < 10 := Nat.mod_lt _ (by decide)
   rw [dgt_val hm] at h1
   rw [e, List.length_append, List.length_singleton]
   refine ⟨by omega, by omega, fun i hi => ?_, fun _ => p4 (by omega), ?_⟩
   ·rcases Nat.lt_or_ge i (Lib.decDigits (u / 10)).length with g | g
    ·exact p3 i g
    ·obtain rfl : i = (Lib.decDigits (u / 10)).length := by omega
     omega
   ·rw [scVal_snoc, p5, h1.2]
    omega
theorem rdDec {s : ByteArray} {o u : Nat} {r : List UInt8} (hu : 0 < u) (hlt : u < 10 ^ 10) (h : Rest s o (Lib.decDigits u ++ r)) (hr : NoDig r) :
  scTake s o pLeading = true ∧ scRun pDigit s 9 (o + 1) = o + (Lib.decDigits u).length ∧ scVal s (o + (Lib.decDigits u).length - o) o 0 = (u : Int) ∧ Rest s (o + (Lib.decDigits u).length) r := by
 obtain ⟨p1, p2, p3, p4, p5⟩ := decAt u r h
 have hlen := dec_len 9 u hlt
 have hn := h.next
 generalize (Lib.decDigits u).length = n at p1 p2 p3 p5 hlen hn ⊢
 have h0 := p3 0 p1
 rw [Nat.add_zero] at h0
 refine ⟨take_iff.2 ⟨by omega, by simp [pLeading]; have := p4 hu; omega⟩, ?_, by rw [Nat.add_sub_cancel_left]; exact p5, hn⟩
 rw [scRun_at pDigit s 9 (n - 1) (o + 1) (by omega) (fun i hi => by
  have := p3 (i + 1) (by omega)
  rw [show o + 1 + i = o + (i + 1) by omega]
  exact take_iff.2 ⟨by omega, by simp only [pDigit, Bool.and_eq_true, decide_eq_true_eq]; exact this⟩) (fun _ => by
  rw [show o + 1 + (n - 1) = o + n by omega]
  cases r with
  | nil =>
   have h3 := hn.2
   have h4 := congrArg List.length h3
   rw [List.length_drop, dl_len] at h4
   simp only [List.length_nil] at h4
   unfold scTake
   rw [decide_eq_false (by omega)]
   rfl
  | cons b q =>
   have h3 := Rest.head hn
   have h4 := hr b q rfl
   unfold scTake pDigit
   rw [h3.2]
   rcases h4 with h4 | h4
   ·rw [decide_eq_false (show ¬ (48 : Int) ≤ (b.toNat : Int) by omega)]; simp
   ·rw [decide_eq_false (show ¬ (b.toNat : Int) ≤ 57 by omega)]; simp)]
 omega
theorem rdN1 {s : ByteArray} {a : Nat} {n : Int} {r : List UInt8} (hn : inN n = true) (h : Rest s a ((numB n).data.toList ++ r)) (hr : NoDig r) : ∃ b, scN s (a, false) = (n, (b, false)) ∧ Rest s b r := by
 have hn' := inN_iff.1 hn
 unfold scN
 rw [if_neg (show ¬ ((a, false) : Sc).2 = true from Bool.false_ne_true)]
 rw [numB_list] at h
 show ∃ b, ((if (scNum s a).1 then (scNum s a).2.2 else 0, (scNum s a).2.1, !(scNum s a).1) : Int × Sc) = (n, (b, false)) ∧ Rest s b r
 by_cases h0 : n < 0
 ·obtain ⟨u, rfl⟩ : ∃ u : Nat, n = -(u : Int) := ⟨n.natAbs, by omega⟩
  rw [Lib.itoa_neg u (by omega), List.cons_append] at h
  have h1 := Rest.head h
  have h2 : Rest s (a + 1) (Lib.decDigits u ++ r) := Rest.next (t := [45]) h
  obtain ⟨q1, q2, q3, q4⟩ := rdDec (by omega) (by omega) h2 hr
  have h45 : bt s (a : Int) = 45 := h1.2
  have e : scNum s a = (true, a + 1 + (Lib.decDigits u).length, -(u : Int)) := by
   unfold scNum
   rw [if_neg (by rw [take_iff]; intro hc; have := pIs_iff.1 hc.2; omega), if_pos (take_iff.2 ⟨h1.1, pIs_iff.2 h45⟩), if_pos q1]
   rw [show scRun pDigit s 9 (a + 1 + 1) = a + 1 + (Lib.decDigits u).length from q2, show scVal s (a + 1 + (Lib.decDigits u).length - (a + 1)) (a + 1) 0 = (u : Int) from q3]
  rw [e]
  exact ⟨_, rfl, q4⟩
 ·obtain ⟨u, rfl⟩ : ∃ u : Nat, n = (u : Int) := ⟨n.natAbs, by omega⟩
  rw [Lib.itoa_nonneg] at h
  by_cases hu : u = 0
  ·subst hu
   rw [Lib.decDigits_one (by decide)] at h
   have h1 := Rest.head h
   have h2 := Rest.next (t := [48]) h
   have h48 : bt s (a : Int) = 48 := h1.2
   have e : scNum s a = (true, a + 1, 0) := by
    unfold scNum
    rw [if_pos (take_iff.2 ⟨h1.1, pIs_iff.2 h48⟩)]
   rw [e]
   exact ⟨_, rfl, h2⟩
  ·obtain ⟨q1, q2, q3, q4⟩ := rdDec (by omega) (by omega) h hr
   have hd := lead_iff q1
   have e : scNum s a = (true, a + (Lib.decDigits u).length, (u : Int)) := by
    unfold scNum
    rw [if_neg (by rw [take_iff]; intro hc; have := pIs_iff.1 hc.2; omega), if_neg (by rw [take_iff]; intro hc; have := pIs_iff.1 hc.2; omega), if_pos q1, q2, q3]
   rw [e]
   exact ⟨_, rfl, q4⟩
theorem idRun {s : ByteArray} {i E : Nat} (hI : IdAt s i E) (hE : E < s.size) (h32 : bt s (E : Int) = 32) : ∀ (k j : Nat), i + 40 ≤ j + k → i < j → j ≤ E → scIdLoop s i k j = (true, E) := by
 intro k
 induction k using Nat.strongRecOn with
 | _ k ih =>
  intro j h1 h2 h3
  obtain ⟨a1, a2, a3, a4, a5⟩ := hI
  rcases Nat.eq_or_lt_of_le h3 with rfl | h4
  ·cases k with
   | zero => rfl
   | succ k =>
    rw [scIdLoop]
    have e1 : scTake s j pPart = false := by
     unfold scTake
     rw [h32]
     simp [pPart, pLetter, pDigit]
    have e2 : scTake s j (pIs 45) = false := by
     unfold scTake
     rw [h32]
     simp [pIs]
    split
    ·rw [e1, e2]; simp
    ·rfl
  ·cases k with
   | zero => omega
   | succ k =>
    rw [scIdLoop, if_pos (by omega)]
    rcases a5 j h2 h4 with b | ⟨b1, b2, b3⟩
    ·rw [if_pos (take_iff.2 ⟨by omega, b⟩)]
     exact ih k (by omega) (j + 1) (by omega) (by omega) (by omega)
    ·have e1 : ¬ scTake s j pPart = true := by
      rw [take_iff]
      intro hc
      exact (part_not hc.2).1 b1
     rw [if_neg e1, if_pos ⟨by omega, take_iff.2 ⟨by omega, pIs_iff.2 b1⟩⟩, if_pos (take_iff.2 ⟨by omega, b3⟩)]
     rcases Nat.eq_or_lt_of_le (show j + 2 ≤ E by omega) with g | g
     ·cases k with
      | zero => rw [scIdLoop, g]
      | succ k => exact ih (k + 1) (by omega) (j + 2) (by omega) (by omega) (by omega)
     ·cases k with
      | zero => omega
      | succ k => exact ih (k + 1) (by omega) (j + 2) (by omega) (by omega) (by omega)
theorem rdI1 {s t : ByteArray} {a : Nat} {r : List UInt8} (ht : idB t = true) (h : Rest s a (t.data.toList ++ ([32] ++ r))) : ∃ b, scI s (a, false) = (t, (b, false)) ∧ Rest s b ([32] ++ r) := by
 obtain ⟨a1, a2, a3, a4, a5⟩ := idB_iff.1 ht
 have hn := h.next
 rw [dl_len] at hn
 have h32 := Rest.head hn
 have hag := h.agr
 have hb : ∀ m, m < t.size → bt t (m : Int) = bt s ((a + m : Nat) : Int) := hag.2.2
 have hI : IdAt s a (a + t.size) := by
  refine ⟨by omega, hag.2.1, by omega, by rw [← Nat.add_zero a, ← hb 0 (by omega)]; exact a4, fun q q0 q1 => ?_⟩
  have e := hb (q - a) (by omega)
  rw [show a + (q - a) = q by omega] at e
  rcases a5 (q - a) (by omega) (by omega) with c | ⟨c1, c2, c3⟩
  ·exact .inl (e ▸ c)
  ·refine .inr ⟨e ▸ c1, by omega, ?_⟩
   have e2 := hb (q - a + 1) (by omega)
   rw [show a + (q - a + 1) = q + 1 by omega] at e2
   rw [← e2]
   exact c3
 have e : scIdent s a = (true, a + t.size) := by
  unfold scIdent
  rw [if_pos (take_iff.2 ⟨by omega, hI.2.2.2.1⟩)]
  exact idRun hI h32.1 h32.2 39 (a + 1) (by omega) (by omega) (by omega)
 refine ⟨a + t.size, ?_, hn⟩
 unfold scI
 rw [if_neg (show ¬ ((a, false) : Sc).2 = true from Bool.false_ne_true)]
 show ((if (scIdent s a).1 then s.extract a (scIdent s a).2 else ⟨#[]⟩, (scIdent s a).2, !(scIdent s a).1) : ByteArray × Sc) = _
 rw [e]
 have ex : s.extract a (a + t.size) = t := by
  refine ByteArray.ext (Array.toList_inj.1 ?_)
  rw [ByteArray.data_extract, Array.toList_extract, List.extract, h.2, show a + t.size - a = t.size by omega, ← dl_len t, List.take_left]
 show ((s.extract a (a + t.size), a + t.size, false) : ByteArray × Sc) = _
 rw [ex]
end Go.Proofs.YtlfokdbnbmebiaaDoor.Q
end
section
namespace Go.Proofs.YtlfokdbnbmebiaaDoor.Q
open Go.RowKit Go.Proofs.YtlfokdbnbmebiaaDoorW.PrintWords Go.Proofs.YtlfokdbnbmebiaaDoorW.PrintLast
set_option maxRecDepth 100000
theorem noDig_sp (r : List UInt8) : NoDig ([32] ++ r) := fun b q e => by
 have := (List.cons.inj e).1
 subst this
 decide
theorem noDig_nl (r : List UInt8) : NoDig ([10] ++ r) := fun b q e => by
 have := (List.cons.inj e).1
 subst this
 decide
theorem noDig_tl (ws : List ByteArray) (r : List UInt8) : NoDig (tl ws ++ ([10] ++ r)) := by
 cases ws with
 | nil => exact noDig_nl r
 | cons w ws => rw [tl_cons, List.append_assoc, List.append_assoc]; exact noDig_sp _
theorem rdPN {s : ByteArray} {a : Nat} {n : Int} {ws : List ByteArray} {r : List UInt8} (hn : inN n = true) (h : Rest s a (tl (numB n :: ws) ++ ([10] ++ r))) : ∃ b, pcN s (a, false) = (n, (b, false)) ∧ Rest s b (tl ws ++ ([10] ++ r)) := by
 rw [tl_cons, List.append_assoc, List.append_assoc] at h
 obtain ⟨e, h1⟩ := rdSp h
 obtain ⟨b, e2, h2⟩ := rdN1 hn h1 (noDig_tl ws r)
 refine ⟨b, ?_, h2⟩
 unfold pcN
 rw [e]
 exact e2
theorem rdPI {s t w : ByteArray} {a : Nat} {ws : List ByteArray} {r : List UInt8} (ht : idB t = true) (h : Rest s a (tl (t :: w :: ws) ++ ([10] ++ r))) : ∃ b, pcI s (a, false) = (t, (b, false)) ∧ Rest s b (tl (w :: ws) ++ ([10] ++ r)) := by
 rw [tl_cons, List.append_assoc, List.append_assoc] at h
 obtain ⟨e, h1⟩ := rdSp h
 have h1' := h1
 rw [tl_cons, List.append_assoc, List.append_assoc] at h1'
 obtain ⟨b, e2, h2⟩ := rdI1 ht h1'
 refine ⟨b, ?_, by rw [tl_cons, List.append_assoc, List.append_assoc]; exact h2⟩
 unfold pcI
 rw [e]
 exact e2
theorem rdPC {s : ByteArray} {l : List ByteArray} (hl : Wds l) {a k : Nat} (hk : k < l.length) {ws : List ByteArray} {r : List UInt8} (h : Rest s a (tl (l[k] :: ws) ++ ([10] ++ r))) : ∃ b, pcC s l (a, false) = ((k : Int), (b, false)) ∧ Rest s b (tl ws ++ ([10] ++ r)) := by
 rw [tl_cons, List.append_assoc, List.append_assoc] at h
 obtain ⟨e, h1⟩ := rdSp h
 obtain ⟨e2, h2⟩ := rdW1 hl hk h1
 refine ⟨_, ?_, h2⟩
 unfold pcC
 rw [e]
 exact e2
theorem rdA {s : ByteArray} {a : Nat} {x : S39} {r : List UInt8} (hx : anB x = true) (h : Rest s a (tl (frW x) ++ ([10] ++ r))) : ∃ b, pcA s (a, false) = (x, (b, false)) ∧ Rest s b r := by
 obtain ⟨f0, f1, f2, f3, f4, f5⟩ := x
 simp only [anB, Bool.and_eq_true] at hx
 obtain ⟨h1, h2, h3, h5, hk⟩ := hx
 unfold anK at hk
 unfold frW at h
 dsimp only at hk h
 by_cases c1 : f0 = 1
 ·subst c1
  rw [if_pos rfl] at h
  simp only [if_true, Bool.and_eq_true, beq_iff_eq] at hk
  obtain ⟨rfl, rfl, rfl⟩ := hk
  obtain ⟨b1, e1, g1⟩ := rdPC (k := 0) wdKinds (by decide) h
  obtain ⟨b2, e2, g2⟩ := rdPN h1 g1
  obtain ⟨b3, e3, g3⟩ := rdPN h2 g2
  obtain ⟨e4, g4⟩ := rdNl g3
  refine ⟨_, ?_, g4⟩
  unfold pcA
  rw [e1]
  have e : pcA1 s ((0 : Nat) : Int) (b1, false) = (⟨1, f1, f2, 0, 0, 0⟩, (b3, false)) := by
   unfold pcA1
   rw [e2]
   dsimp only
   rw [e3]
   exact if_pos rfl
  dsimp only
  rw [e]
  dsimp only
  rw [e4]
 ·rw [if_neg c1] at h hk
  by_cases c2 : f0 = 2
  ·subst c2
   rw [if_pos rfl] at h
   simp only [if_true, Bool.and_eq_true, beq_iff_eq] at hk
   obtain ⟨rfl, rfl, rfl, rfl⟩ := hk
   obtain ⟨b1, e1, g1⟩ := rdPC (k := 1) wdKinds (by decide) h
   obtain ⟨b2, e2, g2⟩ := rdPN h3 g1
   obtain ⟨e4, g4⟩ := rdNl g2
   refine ⟨_, ?_, g4⟩
   unfold pcA
   rw [e1]
   have e : pcA1 s ((1 : Nat) : Int) (b1, false) = (⟨2, 0, 0, f3, 0, 0⟩, (b2, false)) := by
    unfold pcA1
    rw [e2]
    exact (if_neg (by decide)).trans (if_pos rfl)
   dsimp only
   rw [e]
   dsimp only
   rw [e4]
  ·rw [if_neg c2] at h hk
   by_cases c3 : f0 = 3
   ·subst c3
    simp only [if_true, Bool.and_eq_true, beq_iff_eq, decide_eq_true_eq] at hk
    obtain ⟨rfl, hw0, hw6⟩ := hk
    obtain ⟨j, rfl⟩ : ∃ j : Nat, f4 = (j : Int) := ⟨f4.toNat, by omega⟩
    have h7 : tDays.length = 7 := rfl
    have hj : j < tDays.length := by omega
    rw [wk_get hj] at h
    obtain ⟨b1, e1, g1⟩ := rdPC (k := 2) wdKinds (by decide) h
    obtain ⟨b2, e2, g2⟩ := rdPC wdDays hj g1
    obtain ⟨b3, e3, g3⟩ := rdPN h5 g2
    obtain ⟨b4, e4, g4⟩ := rdPN h1 g3
    obtain ⟨b5, e5, g5⟩ := rdPN h2 g4
    obtain ⟨e6, g6⟩ := rdNl g5
    refine ⟨_, ?_, g6⟩
    unfold pcA
    rw [e1]
    have e : pcA1 s ((2 : Nat) : Int) (b1, false) = (⟨3, f1, f2, 0, (j : Int), f5⟩, (b5, false)) := by
     unfold pcA1
     rw [e2]
     dsimp only
     rw [e3]
     dsimp only
     rw [e4]
     dsimp only
     rw [e5]
     exact (if_neg (by decide)).trans ((if_neg (by decide)).trans (if_pos rfl))
    dsimp only
    rw [e]
    dsimp only
    rw [e6]
   ·rw [if_neg c3] at hk
    exact ff' hk
theorem rdF1 {s : ByteArray} {a : Nat} {x : S43} {r : List UInt8} (hx : feB x = true) (h : Rest s a (tl ([x.f0, numB x.f1, polB x.f2] ++ frW x.f3) ++ ([10] ++ r))) : ∃ b, pcF s (a, false) = (x, (b, false)) ∧ Rest s b r := by
 simp only [feB, Bool.and_eq_true, decide_eq_true_eq] at hx
 obtain ⟨h1, h2, h3, h4, h5⟩ := hx
 have hl : tPols.length = 3 := rfl
 obtain ⟨k, hk⟩ : ∃ k : Nat, x.f2 = (k : Int) + 1 := ⟨(x.f2 - 1).toNat, by omega⟩
 have hk3 : k < tPols.length := by omega
 have hp : polB x.f2 = tPols[k] := by
  rw [hk]
  unfold polB
  rw [show ((k : Int) + 1 - 1).toNat = k by omega]
  simp [List.getD, hk3]
 rw [hp] at h
 obtain ⟨b1, e1, g1⟩ := rdPI (ws := tPols[k] :: frW x.f3) h1 h
 obtain ⟨b2, e2, g2⟩ := rdPN h2 g1
 obtain ⟨b3, e3, g3⟩ := rdPC wdPols hk3 g2
 obtain ⟨b4, e4, g4⟩ := rdA h5 g3
 refine ⟨b4, ?_, g4⟩
 unfold pcF
 rw [e1]
 dsimp only
 rw [e2]
 dsimp only
 rw [e3]
 dsimp only
 rw [e4, show wrap64 ((k : Int) + 1) = x.f2 by rw [hk]; unfold wrap64; omega]
theorem rdS1 {s : ByteArray} {a : Nat} {x : S41} {r : List UInt8} (hx : seB x = true) (h : Rest s a (tl ([x.f0, numB x.f1, numB x.f2] ++ frW x.f3) ++ ([10] ++ r))) : ∃ b, pcS s (a, false) = (x, (b, false)) ∧ Rest s b r := by
 simp only [seB, Bool.and_eq_true] at hx
 obtain ⟨h1, h2, h3, h5⟩ := hx
 obtain ⟨b1, e1, g1⟩ := rdPI (ws := numB x.f2 :: frW x.f3) h1 h
 obtain ⟨b2, e2, g2⟩ := rdPN h2 g1
 obtain ⟨b3, e3, g3⟩ := rdPN h3 g2
 obtain ⟨b4, e4, g4⟩ := rdA h5 g3
 refine ⟨b4, ?_, g4⟩
 unfold pcS
 rw [e1]
 dsimp only
 rw [e2]
 dsimp only
 rw [e3]
 dsimp only
 rw [e4]
theorem Rest.len {s : ByteArray} {a : Nat} {u : List UInt8} (h : Rest s a u) : a + u.length = s.size := by
 have := congrArg List.length h.2
 rw [List.length_drop, dl_len] at this
 have := h.1
 omega
theorem rdL {s : ByteArray} : ∀ (m n : Nat) (S : List S41) (F : List S43) (ls : List S41) (lf : List S43) (a : Nat), (n = 2 ∧ S = [] ∨ n = 3) → S.all seB = true → F.all feB = true →
  Rest s a ((S.map seaL).flatten ++ ((F.map feaL).flatten ++ endL)) → s.size - a + 1 ≤ m → catL s m n ls lf (a, false) = (ls ++ S, lf ++ F, (s.size, false))
 | 0, n, S, F, ls, lf, a, hn, hS, hF, h, hm => by omega
 | m + 1, n, S, F, ls, lf, a, hn, hS, hF, h, hm => by
  have hn' : n = 2 ∨ n = 3 := by rcases hn with ⟨h, _⟩ | h; exact .inl h; exact .inr h
  have hH : Wds (wHeads.take n) := by rcases hn' with rfl | rfl; exact wdH2; exact wdH3
  have hlen : 2 ≤ (wHeads.take n).length := by rcases hn' with rfl | rfl <;> decide
  have g0 : ∀ h : 0 < (wHeads.take n).length, (wHeads.take n)[0] = bEnd := by rcases hn' with rfl | rfl <;> exact fun _ => rfl
  have g1 : ∀ h : 1 < (wHeads.take n).length, (wHeads.take n)[1] = bFeast := by rcases hn' with rfl | rfl <;> exact fun _ => rfl
  have hl := h.len
  rw [catL, if_neg (show ¬ ((a, false) : Sc).2 = true from Bool.false_ne_true)]
  cases S with
  | cons z S =>
   have h3 : n = 3 := by
    rcases hn with ⟨_, h⟩ | h
    ·exact absurd h (by simp)
    ·exact h
   subst h3
   rw [List.all_cons, Bool.and_eq_true] at hS
   have h' := h
   rw [List.map_cons, List.flatten_cons, seaL, seaW, List.cons_append, lineL_tl, List.append_assoc, List.append_assoc, List.append_assoc] at h'
   obtain ⟨e1, q1⟩ := rdW1 (l := wHeads.take 3) (k := 2) hH (by decide) h'
   obtain ⟨b, e2, q2⟩ := rdS1 hS.1 q1
   have hlb := q2.len
   have hlq := q1.len
   rw [e1]
   dsimp only
   rw [if_neg (by decide), if_neg (by decide), if_pos (by decide), e2]
   have ih := rdL m 3 S F (ls ++ [z]) lf b (.inr rfl) hS.2 hF q2 (by
    have hsz : ((wHeads.take 3)[2]'(by decide)).size = 6 := by decide
    rw [hsz] at hlq
    simp only [List.length_append, List.length_cons, List.length_nil] at hlq hlb
    omega)
   dsimp only
   rw [ih, List.append_assoc]
   rfl
  | nil =>
   cases F with
   | cons z F =>
    rw [List.all_cons, Bool.and_eq_true] at hF
    have h' := h
    rw [List.map_nil, List.flatten_nil, List.nil_append, List.map_cons, List.flatten_cons, feaL, feaW, List.cons_append, lineL_tl, List.append_assoc, List.append_assoc, List.append_assoc] at h'
    have hk : 1 < (wHeads.take n).length := by omega
    obtain ⟨e1, q1⟩ := rdW1 (l := wHeads.take n) (k := 1) hH hk (by rw [g1 hk]; exact h')
    obtain ⟨b, e2, q2⟩ := rdF1 hF.1 q1
    have hlb := q2.len
    have hlq := q1.len
    rw [e1]
    dsimp only
    rw [if_neg (by decide), if_pos (by decide), e2]
    have ih := rdL m 2 [] F ls (lf ++ [z]) b (.inl ⟨rfl, rfl⟩) rfl hF.2 q2 (by
     rw [g1 hk, show bFeast.size = 5 from rfl] at hlq
     simp only [List.length_append, List.length_cons, List.length_nil] at hlq hlb
     omega)
    dsimp only
    rw [ih, List.append_assoc]
    rfl
   | nil =>
    have h' : Rest s a (bEnd.data.toList ++ ([10] ++ [])) := h
    have hk : 0 < (wHeads.take n).length := by omega
    obtain ⟨e1, q1⟩ := rdW1 (l := wHeads.take n) (k := 0) hH hk (by rw [g0 hk]; exact h')
    obtain ⟨e2, q2⟩ := rdNl q1
    rw [e1]
    dsimp only
    rw [if_pos (by decide), e2]
    have hl2 := q2.len
    rw [List.length_nil, Nat.add_zero] at hl2
    unfold scE
    rw [if_neg (show ¬ (_, false).2 = true from Bool.false_ne_true), List.append_nil, List.append_nil]
    dsimp only
    rw [hl2, decide_eq_true (Nat.le_refl _)]
    rfl
theorem rdCat {fr : Int} {ls : List S41} {lf : List S43} (h : prB fr ls lf = true) {s : ByteArray} (hs : s.data.toList = catT fr ls lf) : catP s = (fr, ls, lf, 0, 0) := by
 simp only [prB, Bool.and_eq_true] at h
 obtain ⟨h1, h2, h3⟩ := h
 have h0 : Rest s 0 ((wHead[0]).data.toList ++ (tl [numB fr] ++ ([10] ++ ((ls.map seaL).flatten ++ ((lf.map feaL).flatten ++ endL))))) := by
  refine ⟨Nat.zero_le _, ?_⟩
  rw [List.drop_zero, hs]
  unfold catT topL
  rw [lineL_tl, lineL_tl]
  simp [tl, wHead]
 obtain ⟨e1, q1⟩ := rdW1 (k := 0) wdHead (by decide) h0
 obtain ⟨b, e2, q2⟩ := rdPN h3 q1
 obtain ⟨e3, q3⟩ := rdNl q2
 have hc : pcCat s (0, false) = (fr, ls, lf, (s.size, false)) := by
  unfold pcCat
  rw [e1]
  dsimp only
  rw [e2]
  dsimp only
  rw [e3]
  dsimp only
  rw [rdL (s.size + 2) 3 ls lf [] [] (b + 1) (.inr rfl) h1 h2 q3 (by omega)]
  rfl
 unfold catP
 rw [hc]
 exact if_neg Bool.false_ne_true
end Go.Proofs.YtlfokdbnbmebiaaDoor.Q
end
section
namespace Go.Proofs.YtlfokdbnbmebiaaDoor.Q
open Go.RowKit Go.Proofs.YtlfokdbnbmebiaaDoorW.PrintWords Go.Proofs.YtlfokdbnbmebiaaDoorW.PrintLast
set_option maxRecDepth 100000
theorem cat_small {fr : Int} {ls : List S41} {lf : List S43} (h : okC fr ls lf) (h1 : ls.length ≤ 30) (h2 : lf.length ≤ 60) : (catT fr ls lf).length ≤ 1000000000 := by
 obtain ⟨g1, g2, g3, g4, g5⟩ := h
 have a1 := topL_le g1
 have a2 := flat_le seaL 10000000 ls (fun y hy => seaL_le (g4 y hy))
 have a6 := flat_le feaL 10000000 lf (fun y hy => feaL_le (g5 y hy))
 have a5 : lf.length * 10000000 ≤ 60 * 10000000 := Nat.mul_le_mul_right _ h2
 have a7 : ls.length * 10000000 ≤ 30 * 10000000 := Nat.mul_le_mul_right _ h1
 have a8 : endL.length = 4 := by rfl
 unfold catT
 rw [List.length_append, List.length_append, List.length_append]
 omega
end Go.Proofs.YtlfokdbnbmebiaaDoor.Q
namespace Go.Proofs.YtlfokdbnbmebiaaDoor.Pure
open Go.RowKit Go.Proofs.YtlfokdbnbmebiaaDoorW.PrintWords Go.Proofs.YtlfokdbnbmebiaaDoorW.PrintLast Go.Proofs.YtlfokdbnbmebiaaDoor.Q
theorem CattextCanonical : Q.computuslaw26_CattextCanonical.Pure := by
 intro fr ls lf hfr hls hws hlf hwf
 refine Ev.rounds (g := fun k => computuslaw26_CattextCanonical.f k fr ls lf) ?_
 have out : ∀ b, b = true → Ev (fun k => computuslaw26_CattextCanonical.j0 k b fr ls lf) true := fun b hb =>
  Ev.step (fun k => computuslaw26_CattextCanonical.j0.eq_2 ..) (Ev.congr (fun k => (if_pos hb).trans (by rw [aw26]; rfl)) (Ev.now true))
 unfold computuslaw26_CattextCanonical.f
 rw [aw26]
 show Ev (fun k => (computuslaw26_few.f fr ls lf).bind fun t => if t = true then ((computusref26_Printable.f k fr ls lf).bind fun p => computuslaw26_CattextCanonical.j0 k (!p) fr ls lf) else computuslaw26_CattextCanonical.j0 k true fr ls lf) true
 have hfew : computuslaw26_few.f fr ls lf = some (decide (ls.length ≤ 30) && decide (lf.length ≤ 60)) := by
  unfold computuslaw26_few.f
  by_cases h : ls.length ≤ 30
  ·rw [if_pos (by omega)]; simp [h]
   omega
  ·rw [if_neg (by omega)]; simp [h]
 rw [hfew]
 by_cases h30 : ls.length ≤ 30 ∧ lf.length ≤ 60
 ·rw [decide_eq_true h30.1, decide_eq_true h30.2]
  show Ev (fun k => (computusref26_Printable.f k fr ls lf).bind fun p => computuslaw26_CattextCanonical.j0 k (!p) fr ls lf) true
  refine Ev.bind (pr_ev fr ls lf (by omega) (by omega)) ?_
  cases hp : prB fr ls lf with
  | false => exact out _ rfl
  | true =>
   have hok := prB_ok hp (by omega) (by omega)
   have hpr : cattext_Print.f fr ls lf = some ⟨(catT fr ls lf).toArray⟩ := if_pos hok
   have hsm := cat_small hok h30.1 h30.2
   have hpa : cattext_Parse.f ⟨(catT fr ls lf).toArray⟩ = some (fr, ls, lf, 0, 0) := by
    refine (if_pos (by rw [sz_mk, List.size_toArray]; omega)).trans ?_
    rw [rdCat hp (by rw [dl_mk, List.toList_toArray])]
   refine Ev.step (fun k => computuslaw26_CattextCanonical.j0.eq_2 ..) (Ev.congr (fun k => if_neg (by decide)) ?_)
   rw [hpr]
   simp only [Option.bind_some]
   rw [hpa]
   simp only [Option.bind_some]
   refine Ev.bind (rPrint hp (by omega) (by omega)) (Ev.congr (fun k => if_pos rfl) ?_)
   exact Ev.bind (same_ev fr ls lf (by omega) (by omega)) (Ev.congr (fun k => (if_pos rfl).trans (if_pos trivial)) (Ev.now _))
 ·have e : (decide (ls.length ≤ 30) && decide (lf.length ≤ 60)) = false := by
   rcases Nat.lt_or_ge 30 ls.length with h | h
   ·simp; omega
   ·simp; omega
  rw [e]
  exact out true rfl
end Go.Proofs.YtlfokdbnbmebiaaDoor.Pure
end
section
namespace Go.Proofs.YtlfokdbnbmebiaaDoor.Q
open Go.RowKit Go.Proofs.YtlfokdbnbmebiaaDoorW.PrintWords Go.Proofs.YtlfokdbnbmebiaaDoorW.PrintLast Go.Proofs.YtlfokdbnbmebiaaDoorW.PrintMore
attribute [local go_sem] max2_int min2_int max_two min_two max_three min_three max_four min_four
def computuslaw26_CattextOffsets.j0 : Nat → Int → Bool → Int → List (S41) → List (S43) → Option (Bool)
 | 0, _, _, _, _, _ => none
 | k + 1, x1, x27, x436000, x436001, x436002 => if x27 = true then ((computuslaw26_awake.f).bind fun t439 => (some t439)) else ((computusref26_Print.f k x436000 x436001 x436002).bind fun t440 => (if (t440.size : Int) = 0 then (none) else (if 0 ≤ (Int.tmod (wrap64 (x1)) (t440.size : Int)) then (if (Int.tmod (wrap64 (x1)) (t440.size : Int)) ≤ (t440.size : Int) then ((cattext_Parse.f (t440.extract 0 ((Int.tmod (wrap64 (x1)) (t440.size : Int)) : Int).toNat)).bind fun bt441 => (if (t440.extract 0 ((Int.tmod (wrap64 (x1)) (t440.size : Int)) : Int).toNat).size + 1 ≤ 9223372036854775807 then (if 0 ≤ (wrap64 ((Int.tmod (wrap64 (x1)) (t440.size : Int)) + 1)) then (if (wrap64 ((Int.tmod (wrap64 (x1)) (t440.size : Int)) + 1)) ≤ (t440.size : Int) then (if ((t440.extract 0 ((Int.tmod (wrap64 (x1)) (t440.size : Int)) : Int).toNat) ++ (⟨#[33]⟩ : ByteArray)).size + (t440.extract ((wrap64 ((Int.tmod (wrap64 (x1)) (t440.size : Int)) + 1)) : Int).toNat t440.size).size ≤ 9223372036854775807 then ((cattext_Parse.f (((t440.extract 0 ((Int.tmod (wrap64 (x1)) (t440.size : Int)) : Int).toNat) ++ (⟨#[33]⟩ : ByteArray)) ++ (t440.extract ((wrap64 ((Int.tmod (wrap64 (x1)) (t440.size : Int)) + 1)) : Int).toNat t440.size))).bind fun bt451 => (if t440.size + 1 ≤ 9223372036854775807 then ((cattext_Parse.f (t440 ++ (⟨#[33]⟩ : ByteArray))).bind fun bt461 => (if bt441.2.2.2.2 = 6 then (if bt441.2.2.2.1 = (Int.tmod (wrap64 (x1)) (t440.size : Int)) then (if bt451.2.2.2.2 = 6 then (if bt451.2.2.2.1 = (Int.tmod (wrap64 (x1)) (t440.size : Int)) then (if bt461.2.2.2.2 = 6 then (some (bt461.2.2.2.1 == (t440.size : Int))) else (none)) else (none)) else (none)) else (none)) else (none))) else (none))) else (none)) else (none)) else (none)) else (none))) else (none)) else (none))))
def computuslaw26_CattextOffsets.f (k : Nat) (a0_0 : Int) (l0_1 : List (S41)) (l0_2 : List (S43)) (a1 : Int) : Option (Bool) := (computuslaw26_awake.f).bind fun t436 => (if t436 = true then ((computuslaw26_few.f a0_0 l0_1 l0_2).bind fun t437 => (if t437 = true then ((computusref26_Printable.f k a0_0 l0_1 l0_2).bind fun t438 => (computuslaw26_CattextOffsets.j0 k a1 (!t438) a0_0 l0_1 l0_2)) else (computuslaw26_CattextOffsets.j0 k a1 true a0_0 l0_1 l0_2))) else (computuslaw26_CattextOffsets.j0 k a1 true a0_0 l0_1 l0_2))
def computuslaw26_CattextOffsets.T6 : Bool × List (List Nat × List Nat) := (true, [([], []), ([], []), ([0, 1], [0, 1]), ([2], [2]), ([], []), ([], []), ([5], [5]), ([4, 6], [4, 6]), ([3, 7], [3, 7]), ([8], [8]), ([9], [9]), ([10], [10]), ([10], [10]), ([10], [10]), ([], []), ([14, 11, 9, 0, 1, 2, 3, 4, 5, 6, 7, 8, 9, 10, 11, 14], [11, 14]), ([12, 15, 0, 1, 2, 3, 4, 5, 6, 7, 8, 9, 10, 11, 12, 14, 15], [12]), ([13, 16, 0, 1, 2, 3, 4, 5, 6, 7, 8, 9, 10, 11, 12, 13, 14, 15, 16], [13])])
def computuslaw26_CattextOffsets.B6 : List Nat := [0, 0, 3, 7, 0, 0, 32, 112, 255, 511, 1023, 2047, 2047, 2047, 0, 20479, 57343, 131071]
theorem computuslaw26_CattextOffsets.tab6 : rtab .any (opsOf Tryd.f6 6) = computuslaw26_CattextOffsets.T6 := by kernel_rfl
theorem computuslaw26_CattextOffsets.bits6 : waitsOk computuslaw26_CattextOffsets.T6.2 computuslaw26_CattextOffsets.B6 = true := by kernel_rfl
theorem computuslaw26_CattextOffsets.calls (k : Nat) (a0_0 : Int) (A0_1 : Option Addr) (c0_1 : Nat) (l0_1 : List (S41)) (A0_2 : Option Addr) (c0_2 : Nat) (l0_2 : List (S43)) (a1 : Int) (r : Bool) (w : World) (hr0_1 : Kd.C k41 w A0_1 l0_1.length l0_1) (hc0_1 : l0_1.length ≤ c0_1) (hr0_2 : Kd.C k43 w A0_2 l0_2.length l0_2) (hc0_2 : l0_2.length ≤ c0_2) (hT : Tabs w) (h : computuslaw26_CattextOffsets.f k a0_0 l0_1 l0_2 a1 = some r) :
  Calls Tryd.prog 6 #[.agg #[.int .i64 a0_0, .slice A0_1 l0_1.length c0_1, .slice A0_2 l0_2.length c0_2], .int .u16 a1] w fun e w' => e = .returned (.bool r) ∧ Below w.heap.size w w' := by
 have HTAB := Aside0.mk hT
 clear hT
 have hu26 := Tryd.underlying26
 have HR0_1 := Aside0.mk hr0_1
 have HC0_1 := Aside0.mk hc0_1
 clear hr0_1 hc0_1
 have HR0_2 := Aside0.mk hr0_2
 have HC0_2 := Aside0.mk hc0_2
 clear hr0_2 hc0_2
 have HB := Aside0.mk (Below.refl w.heap.size w)
 have H : ((computuslaw26_awake.f).bind fun t436 => (if t436 = true then ((computuslaw26_few.f a0_0 l0_1 l0_2).bind fun t437 => (if t437 = true then ((computusref26_Printable.f k a0_0 l0_1 l0_2).bind fun t438 => (computuslaw26_CattextOffsets.j0 k a1 (!t438) a0_0 l0_1 l0_2)) else (computuslaw26_CattextOffsets.j0 k a1 true a0_0 l0_1 l0_2))) else (computuslaw26_CattextOffsets.j0 k a1 true a0_0 l0_1 l0_2))) = some r := h
 clear h
 have HC3 := Aside0.mk H
 clear H
 go_enter Tryd.func6, Tryd.ntmps6
 go_upto_region 1 with (first | ((with_reducible refine gate_dst (N := 2) rfl ?_); (try (refine gate_guard (by rfl) ?_; dsimp only)); refine box_event ?hg (N := 2) ?hd (cs := #[.int .i64 a0_0, .slice A0_1 l0_1.length c0_1, .slice A0_2 l0_2.length c0_2]) (t := 26) ?hr ?_; (case hd => rfl); (case hg => rfl); (case hr => first | (go_simp; done) | (go_simp; rfl)); intro gb435 hg w4 hbox hb; have n0_ := Aside0.mk (below_step (by repeat (first | (with_reducible first | exact HB.out | apply below_alloc | apply pw_below_drewN | apply below_drew1) | exact HB.out)) hb); have n1_ := Aside0.mk (hbox); have n2_ := Aside0.mk ((by rw [hg]; exact (below_size (by repeat (first | (with_reducible first | exact HB.out | apply below_alloc | apply pw_below_drewN | apply below_drew1) | exact HB.out))) : w.heap.size ≤ gb435)); have n3_ := Aside0.mk ((by rw [hg]; exact (below_size (by repeat (first | (with_reducible first | exact HB.out | apply below_alloc | apply pw_below_drewN | apply below_drew1) | exact HB.out))) : w.heap.size ≤ gb435)); clear HB; have HB := n0_; have BK435 := n1_; have GW435 := n2_; have GE435 := n3_; clear n0_ n1_ n2_ n3_; clear hb hbox hg))
 (try simp only [Act.put, List.setIfInBounds_toArray, List.set_cons_zero, List.set_cons_succ])
 go_cut [27] (fun v27 wc => ∃ (kq : Nat) (x27_2 : Bool), v27 = .bool x27_2 ∧ Aside0 (computuslaw26_CattextOffsets.j0 kq a1 x27_2 a0_0 l0_1 l0_2 = some r) ∧ Aside0 (kq ≤ k) ∧ Aside0 (wc.heap[gb435]? = some (.cells #[.int .i64 a0_0, (.slice A0_1 l0_1.length c0_1), (.slice A0_2 l0_2.length c0_2)] 26 (0, 0))) ∧ Aside0 (Below w.heap.size w wc))
 case first =>
  have H := HC3.out
  clear HC3
  replace H := Option.bind_eq_some_iff.mp H
  obtain ⟨t436, A50, H⟩ := H
  replace H : (if t436 = true then ((computuslaw26_few.f a0_0 l0_1 l0_2).bind fun t437 => (if t437 = true then ((computusref26_Printable.f k a0_0 l0_1 l0_2).bind fun t438 => (computuslaw26_CattextOffsets.j0 k a1 (!t438) a0_0 l0_1 l0_2)) else (computuslaw26_CattextOffsets.j0 k a1 true a0_0 l0_1 l0_2))) else (computuslaw26_CattextOffsets.j0 k a1 true a0_0 l0_1 l0_2)) = some r := H
  have A5 := Aside0.mk A50
  clear A50
  by_cases c6 : t436 = true
  ·subst c6
   have H1 : ((computuslaw26_few.f a0_0 l0_1 l0_2).bind fun t437 => (if t437 = true then ((computusref26_Printable.f k a0_0 l0_1 l0_2).bind fun t438 => (computuslaw26_CattextOffsets.j0 k a1 (!t438) a0_0 l0_1 l0_2)) else (computuslaw26_CattextOffsets.j0 k a1 true a0_0 l0_1 l0_2))) = some r := by rw [if_pos rfl] at H; exact H
   clear H
   have H := H1
   clear H1
   replace H := Option.bind_eq_some_iff.mp H
   obtain ⟨t437, A70, H⟩ := H
   replace H : (if t437 = true then ((computusref26_Printable.f k a0_0 l0_1 l0_2).bind fun t438 => (computuslaw26_CattextOffsets.j0 k a1 (!t438) a0_0 l0_1 l0_2)) else (computuslaw26_CattextOffsets.j0 k a1 true a0_0 l0_1 l0_2)) = some r := H
   have A7 := Aside0.mk A70
   clear A70
   by_cases c8 : t437 = true
   ·subst c8
    have H1 : ((computusref26_Printable.f k a0_0 l0_1 l0_2).bind fun t438 => (computuslaw26_CattextOffsets.j0 k a1 (!t438) a0_0 l0_1 l0_2)) = some r := by rw [if_pos rfl] at H; exact H
    clear H
    have H := H1
    clear H1
    replace H := Option.bind_eq_some_iff.mp H
    obtain ⟨t438, A90, H⟩ := H
    replace H : (computuslaw26_CattextOffsets.j0 k a1 (!t438) a0_0 l0_1 l0_2) = some r := H
    have A9 := Aside0.mk A90
    clear A90
    have H' := Aside0.mk H
    clear H
    go_wp2_with (first | ((with_reducible refine gate_callee (f := 8) rfl ?_); refine goesL_ (some 16) rfl rfl Tryd.func8 (by kernel_rfl) rfl #[] rfl (by (try simp only [List.map_toArray, List.map_cons, List.map_nil]); first | done | rfl | (simp only [List.length_drop, List.length_take]; rfl)) ?_; (with_reducible refine (computuslaw26_awake.calls (hT := Tabs.below HTAB.out (by repeat (first | (with_reducible first | exact HB.out | apply below_alloc | apply pw_below_drewN | apply below_drew1 | refine below_set ?_ (by assumption) | refine below_set ?_ GE435.out | refine below_set ?_ GE450.out | refine below_set ?_ GE460.out | refine below_set ?_ GE470.out) | exact HB.out)))  true _ A5.out).mono ?_); rintro e w10 ⟨rfl, hb⟩; refine ⟨_, rfl, ?_⟩; have n0_ := Aside0.mk (blk_below (g := gb435) (o := .cells #[.int .i64 a0_0, .slice A0_1 l0_1.length c0_1, .slice A0_2 l0_2.length c0_2] 26 (0, 0)) (by (with_reducible repeat (first | refine blk_drewN ?_ _ | refine blk_drew ?_ | refine blk_alloc ?_ _)); exact BK435.out) hb); have n1_ := Aside0.mk (below_step (by repeat (first | (with_reducible first | exact HB.out | apply below_alloc | apply pw_below_drewN | apply below_drew1 | refine below_set ?_ GE435.out) | exact HB.out)) hb); clear BK435; clear HB; have BK435 := n0_; have HB := n1_; clear n0_ n1_; (try clear hb); (try clear hb2); (try clear hk); (try clear hi); have hcz11_0 : w10.cell? ⟨gb435, 0, none⟩ = some (.int .i64 a0_0) := (blk_cell BK435.out 0).trans rfl; have hcz11_1 : w10.cell? ⟨gb435, 1, none⟩ = some (.slice A0_1 l0_1.length c0_1) := (blk_cell BK435.out 1).trans rfl; have hcz11_2 : w10.cell? ⟨gb435, 2, none⟩ = some (.slice A0_2 l0_2.length c0_2) := (blk_cell BK435.out 2).trans rfl; have hfz11_0 := blk_frozen BK435.out 0; have hfz11_1 := blk_frozen BK435.out 1; have hfz11_2 := blk_frozen BK435.out 2) | (go_at_call 12; (with_reducible refine (computuslaw26_few.calls a0_0 _ _ l0_1 _ _ l0_2 true _ ?side1 ?side2 ?side3 ?side4 A7.out).mono ?_); (case side1 => repeat (first | exact (Kd.C_below HR0_1.out HB.out) | (with_reducible refine Kd.C_alloc ?_ _) | (with_reducible refine Kd.C_drewN ?_ _) | (with_reducible refine Kd.C_drew ?_))); (case side2 => exact HC0_1.out); (case side3 => repeat (first | exact (Kd.C_below HR0_2.out HB.out) | (with_reducible refine Kd.C_alloc ?_ _) | (with_reducible refine Kd.C_drewN ?_ _) | (with_reducible refine Kd.C_drew ?_))); (case side4 => exact HC0_2.out); rintro e w12 ⟨rfl, hb⟩; have n0_ := Aside0.mk (blk_below (g := gb435) (o := .cells #[.int .i64 a0_0, .slice A0_1 l0_1.length c0_1, .slice A0_2 l0_2.length c0_2] 26 (0, 0)) (by (with_reducible repeat (first | refine blk_drewN ?_ _ | refine blk_drew ?_ | refine blk_alloc ?_ _)); exact BK435.out) hb); have n1_ := Aside0.mk (below_step (by repeat (first | (with_reducible first | exact HB.out | apply below_alloc | apply pw_below_drewN | apply below_drew1 | refine below_set ?_ GE435.out) | exact HB.out)) hb); clear BK435; clear HB; have BK435 := n0_; have HB := n1_; clear n0_ n1_; (try clear hb); (try clear hb2); (try clear hk); (try clear hi); have hcz13_0 : w12.cell? ⟨gb435, 0, none⟩ = some (.int .i64 a0_0) := (blk_cell BK435.out 0).trans rfl; have hcz13_1 : w12.cell? ⟨gb435, 1, none⟩ = some (.slice A0_1 l0_1.length c0_1) := (blk_cell BK435.out 1).trans rfl; have hcz13_2 : w12.cell? ⟨gb435, 2, none⟩ = some (.slice A0_2 l0_2.length c0_2) := (blk_cell BK435.out 2).trans rfl; have hfz13_0 := blk_frozen BK435.out 0; have hfz13_1 := blk_frozen BK435.out 1; have hfz13_2 := blk_frozen BK435.out 2) | (go_at_call 13; (with_reducible refine (computusref26_Printable.calls k a0_0 _ _ l0_1 _ _ l0_2 t438 _ ?side1 ?side2 ?side3 ?side4 A9.out).mono ?_); (case side1 => repeat (first | exact (Kd.C_below HR0_1.out HB.out) | (with_reducible refine Kd.C_alloc ?_ _) | (with_reducible refine Kd.C_drewN ?_ _) | (with_reducible refine Kd.C_drew ?_))); (case side2 => exact HC0_1.out); (case side3 => repeat (first | exact (Kd.C_below HR0_2.out HB.out) | (with_reducible refine Kd.C_alloc ?_ _) | (with_reducible refine Kd.C_drewN ?_ _) | (with_reducible refine Kd.C_drew ?_))); (case side4 => exact HC0_2.out); rintro e w14 ⟨rfl, hb⟩; have n0_ := Aside0.mk (blk_below (g := gb435) (o := .cells #[.int .i64 a0_0, .slice A0_1 l0_1.length c0_1, .slice A0_2 l0_2.length c0_2] 26 (0, 0)) (by (with_reducible repeat (first | refine blk_drewN ?_ _ | refine blk_drew ?_ | refine blk_alloc ?_ _)); exact BK435.out) hb); have n1_ := Aside0.mk (below_step (by repeat (first | (with_reducible first | exact HB.out | apply below_alloc | apply pw_below_drewN | apply below_drew1 | refine below_set ?_ GE435.out) | exact HB.out)) hb); clear BK435; clear HB; have BK435 := n0_; have HB := n1_; clear n0_ n1_; (try clear hb); (try clear hb2); (try clear hk); (try clear hi)))
    go_meet
    case rel => exact ⟨_, (!t438), (by first | rfl | (simp; done) | (simp [*]; done)), H', ⟨by first | omega | exact Nat.le_refl _⟩, ⟨by (with_reducible repeat (first | refine blk_drewN ?_ _ | refine blk_drew ?_ | refine blk_alloc ?_ _)); exact BK435.out⟩, ⟨by repeat (first | (with_reducible first | exact HB.out | apply below_alloc | apply pw_below_drewN | apply below_drew1 | refine below_set ?_ GE435.out) | exact HB.out)⟩⟩
   ·replace c8 := Bool.eq_false_iff.mpr c8
    subst c8
    have H1 : (computuslaw26_CattextOffsets.j0 k a1 true a0_0 l0_1 l0_2) = some r := by rw [if_neg (show ¬ (false = true) by decide)] at H; exact H
    clear H
    have H := H1
    clear H1
    have H' := Aside0.mk H
    clear H
    go_wp2_with (first | ((with_reducible refine gate_callee (f := 8) rfl ?_); refine goesL_ (some 16) rfl rfl Tryd.func8 (by kernel_rfl) rfl #[] rfl (by (try simp only [List.map_toArray, List.map_cons, List.map_nil]); first | done | rfl | (simp only [List.length_drop, List.length_take]; rfl)) ?_; (with_reducible refine (computuslaw26_awake.calls (hT := Tabs.below HTAB.out (by repeat (first | (with_reducible first | exact HB.out | apply below_alloc | apply pw_below_drewN | apply below_drew1 | refine below_set ?_ (by assumption) | refine below_set ?_ GE435.out | refine below_set ?_ GE450.out | refine below_set ?_ GE460.out | refine below_set ?_ GE470.out) | exact HB.out)))  true _ A5.out).mono ?_); rintro e w15 ⟨rfl, hb⟩; refine ⟨_, rfl, ?_⟩; have n0_ := Aside0.mk (blk_below (g := gb435) (o := .cells #[.int .i64 a0_0, .slice A0_1 l0_1.length c0_1, .slice A0_2 l0_2.length c0_2] 26 (0, 0)) (by (with_reducible repeat (first | refine blk_drewN ?_ _ | refine blk_drew ?_ | refine blk_alloc ?_ _)); exact BK435.out) hb); have n1_ := Aside0.mk (below_step (by repeat (first | (with_reducible first | exact HB.out | apply below_alloc | apply pw_below_drewN | apply below_drew1 | refine below_set ?_ GE435.out) | exact HB.out)) hb); clear BK435; clear HB; have BK435 := n0_; have HB := n1_; clear n0_ n1_; (try clear hb); (try clear hb2); (try clear hk); (try clear hi); have hcz16_0 : w15.cell? ⟨gb435, 0, none⟩ = some (.int .i64 a0_0) := (blk_cell BK435.out 0).trans rfl; have hcz16_1 : w15.cell? ⟨gb435, 1, none⟩ = some (.slice A0_1 l0_1.length c0_1) := (blk_cell BK435.out 1).trans rfl; have hcz16_2 : w15.cell? ⟨gb435, 2, none⟩ = some (.slice A0_2 l0_2.length c0_2) := (blk_cell BK435.out 2).trans rfl; have hfz16_0 := blk_frozen BK435.out 0; have hfz16_1 := blk_frozen BK435.out 1; have hfz16_2 := blk_frozen BK435.out 2) | (go_at_call 12; (with_reducible refine (computuslaw26_few.calls a0_0 _ _ l0_1 _ _ l0_2 false _ ?side1 ?side2 ?side3 ?side4 A7.out).mono ?_); (case side1 => repeat (first | exact (Kd.C_below HR0_1.out HB.out) | (with_reducible refine Kd.C_alloc ?_ _) | (with_reducible refine Kd.C_drewN ?_ _) | (with_reducible refine Kd.C_drew ?_))); (case side2 => exact HC0_1.out); (case side3 => repeat (first | exact (Kd.C_below HR0_2.out HB.out) | (with_reducible refine Kd.C_alloc ?_ _) | (with_reducible refine Kd.C_drewN ?_ _) | (with_reducible refine Kd.C_drew ?_))); (case side4 => exact HC0_2.out); rintro e w17 ⟨rfl, hb⟩; have n0_ := Aside0.mk (blk_below (g := gb435) (o := .cells #[.int .i64 a0_0, .slice A0_1 l0_1.length c0_1, .slice A0_2 l0_2.length c0_2] 26 (0, 0)) (by (with_reducible repeat (first | refine blk_drewN ?_ _ | refine blk_drew ?_ | refine blk_alloc ?_ _)); exact BK435.out) hb); have n1_ := Aside0.mk (below_step (by repeat (first | (with_reducible first | exact HB.out | apply below_alloc | apply pw_below_drewN | apply below_drew1 | refine below_set ?_ GE435.out) | exact HB.out)) hb); clear BK435; clear HB; have BK435 := n0_; have HB := n1_; clear n0_ n1_; (try clear hb); (try clear hb2); (try clear hk); (try clear hi)))
    go_meet
    case rel => exact ⟨_, (true), (by first | rfl | (simp; done) | (simp [*]; done)), H', ⟨by first | omega | exact Nat.le_refl _⟩, ⟨by (with_reducible repeat (first | refine blk_drewN ?_ _ | refine blk_drew ?_ | refine blk_alloc ?_ _)); exact BK435.out⟩, ⟨by repeat (first | (with_reducible first | exact HB.out | apply below_alloc | apply pw_below_drewN | apply below_drew1 | refine below_set ?_ GE435.out) | exact HB.out)⟩⟩
  ·replace c6 := Bool.eq_false_iff.mpr c6
   subst c6
   have H1 : (computuslaw26_CattextOffsets.j0 k a1 true a0_0 l0_1 l0_2) = some r := by rw [if_neg (show ¬ (false = true) by decide)] at H; exact H
   clear H
   have H := H1
   clear H1
   have H' := Aside0.mk H
   clear H
   go_wp2_with (first | ((with_reducible refine gate_callee (f := 8) rfl ?_); refine goesL_ (some 16) rfl rfl Tryd.func8 (by kernel_rfl) rfl #[] rfl (by (try simp only [List.map_toArray, List.map_cons, List.map_nil]); first | done | rfl | (simp only [List.length_drop, List.length_take]; rfl)) ?_; (with_reducible refine (computuslaw26_awake.calls (hT := Tabs.below HTAB.out (by repeat (first | (with_reducible first | exact HB.out | apply below_alloc | apply pw_below_drewN | apply below_drew1 | refine below_set ?_ (by assumption) | refine below_set ?_ GE435.out | refine below_set ?_ GE450.out | refine below_set ?_ GE460.out | refine below_set ?_ GE470.out) | exact HB.out)))  false _ A5.out).mono ?_); rintro e w18 ⟨rfl, hb⟩; refine ⟨_, rfl, ?_⟩; have n0_ := Aside0.mk (blk_below (g := gb435) (o := .cells #[.int .i64 a0_0, .slice A0_1 l0_1.length c0_1, .slice A0_2 l0_2.length c0_2] 26 (0, 0)) (by (with_reducible repeat (first | refine blk_drewN ?_ _ | refine blk_drew ?_ | refine blk_alloc ?_ _)); exact BK435.out) hb); have n1_ := Aside0.mk (below_step (by repeat (first | (with_reducible first | exact HB.out | apply below_alloc | apply pw_below_drewN | apply below_drew1 | refine below_set ?_ GE435.out) | exact HB.out)) hb); clear BK435; clear HB; have BK435 := n0_; have HB := n1_; clear n0_ n1_; (try clear hb); (try clear hb2); (try clear hk); (try clear hi)))
   go_meet
   case rel => exact ⟨_, (true), (by first | rfl | (simp; done) | (simp [*]; done)), H', ⟨by first | omega | exact Nat.le_refl _⟩, ⟨by (with_reducible repeat (first | refine blk_drewN ?_ _ | refine blk_drew ?_ | refine blk_alloc ?_ _)); exact BK435.out⟩, ⟨by repeat (first | (with_reducible first | exact HB.out | apply below_alloc | apply pw_below_drewN | apply below_drew1 | refine below_set ?_ GE435.out) | exact HB.out)⟩⟩
 case rest =>
  clear HC3
  try clear p2
  try clear c6
  try clear c8
  try clear hcz11_0
  try clear hcz11_1
  try clear hcz11_2
  try clear hcz13_0
  try clear hcz13_1
  try clear hcz13_2
  try clear hcz16_0
  try clear hcz16_1
  try clear hcz16_2
  try clear hfz11_0
  try clear hfz11_1
  try clear hfz11_2
  try clear hfz13_0
  try clear hfz13_1
  try clear hfz13_2
  try clear hfz16_0
  try clear hfz16_1
  try clear hfz16_2
  obtain ⟨kq, x27_2, rfl, HA, HJ2, BK435, HB⟩ := hcut
  cases kq with
  | zero => exact absurd HA.out (by simp [computuslaw26_CattextOffsets.j0])
  | succ kj2 =>
   have H := HA.out
   clear HA
   simp only [computuslaw26_CattextOffsets.j0] at H
   by_cases c19 : x27_2 = true
   ·subst c19
    have H1 : ((computuslaw26_awake.f).bind fun t439 => (some t439)) = some r := by rw [if_pos rfl] at H; exact H
    clear H
    have H := H1
    clear H1
    replace H := Option.bind_eq_some_iff.mp H
    obtain ⟨t439, A200, H⟩ := H
    replace H : (some t439) = some r := H
    have A20 := Aside0.mk A200
    clear A200
    obtain rfl := Option.some.inj H
    go_wp2_with (first | ((with_reducible refine gate_callee (f := 8) rfl ?_); refine goesL_ (some 28) rfl rfl Tryd.func8 (by kernel_rfl) rfl #[] rfl (by (try simp only [List.map_toArray, List.map_cons, List.map_nil]); first | done | rfl | (simp only [List.length_drop, List.length_take]; rfl)) ?_; (with_reducible refine (computuslaw26_awake.calls (hT := Tabs.below HTAB.out (by repeat (first | (with_reducible first | exact HB.out | apply below_alloc | apply pw_below_drewN | apply below_drew1 | refine below_set ?_ (by assumption) | refine below_set ?_ GE435.out | refine below_set ?_ GE450.out | refine below_set ?_ GE460.out | refine below_set ?_ GE470.out) | exact HB.out)))  t439 _ A20.out).mono ?_); rintro e w21 ⟨rfl, hb⟩; refine ⟨_, rfl, ?_⟩; have n0_ := Aside0.mk (blk_below (g := gb435) (o := .cells #[.int .i64 a0_0, .slice A0_1 l0_1.length c0_1, .slice A0_2 l0_2.length c0_2] 26 (0, 0)) (by (with_reducible repeat (first | refine blk_drewN ?_ _ | refine blk_drew ?_ | refine blk_alloc ?_ _)); exact BK435.out) hb); have n1_ := Aside0.mk (below_step (by repeat (first | (with_reducible first | exact HB.out | apply below_alloc | apply pw_below_drewN | apply below_drew1 | refine below_set ?_ GE435.out) | exact HB.out)) hb); clear BK435; clear HB; have BK435 := n0_; have HB := n1_; clear n0_ n1_; (try clear hb); (try clear hb2); (try clear hk); (try clear hi)))
    go_ret
    exact ⟨by first | rfl | (simp [errW_none, errW_some] <;> rfl) | (simp [*, errW_none, errW_some] <;> rfl), by repeat (first | (with_reducible first | exact HB.out | apply below_alloc | apply pw_below_drewN | apply below_drew1 | refine below_set ?_ GE435.out) | exact HB.out)⟩
   ·replace c19 := Bool.eq_false_iff.mpr c19
    subst c19
    have H1 : ((computusref26_Print.f kj2 a0_0 l0_1 l0_2).bind fun t440 => (if (t440.size : Int) = 0 then (none) else (if 0 ≤ (Int.tmod (wrap64 (a1)) (t440.size : Int)) then (if (Int.tmod (wrap64 (a1)) (t440.size : Int)) ≤ (t440.size : Int) then ((cattext_Parse.f (t440.extract 0 ((Int.tmod (wrap64 (a1)) (t440.size : Int)) : Int).toNat)).bind fun bt441 => (if (t440.extract 0 ((Int.tmod (wrap64 (a1)) (t440.size : Int)) : Int).toNat).size + 1 ≤ 9223372036854775807 then (if 0 ≤ (wrap64 ((Int.tmod (wrap64 (a1)) (t440.size : Int)) + 1)) then (if (wrap64 ((Int.tmod (wrap64 (a1)) (t440.size : Int)) + 1)) ≤ (t440.size : Int) then (if ((t440.extract 0 ((Int.tmod (wrap64 (a1)) (t440.size : Int)) : Int).toNat) ++ (⟨#[33]⟩ : ByteArray)).size + (t440.extract ((wrap64 ((Int.tmod (wrap64 (a1)) (t440.size : Int)) + 1)) : Int).toNat t440.size).size ≤ 9223372036854775807 then ((cattext_Parse.f (((t440.extract 0 ((Int.tmod (wrap64 (a1)) (t440.size : Int)) : Int).toNat) ++ (⟨#[33]⟩ : ByteArray)) ++ (t440.extract ((wrap64 ((Int.tmod (wrap64 (a1)) (t440.size : Int)) + 1)) : Int).toNat t440.size))).bind fun bt451 => (if t440.size + 1 ≤ 9223372036854775807 then ((cattext_Parse.f (t440 ++ (⟨#[33]⟩ : ByteArray))).bind fun bt461 => (if bt441.2.2.2.2 = 6 then (if bt441.2.2.2.1 = (Int.tmod (wrap64 (a1)) (t440.size : Int)) then (if bt451.2.2.2.2 = 6 then (if bt451.2.2.2.1 = (Int.tmod (wrap64 (a1)) (t440.size : Int)) then (if bt461.2.2.2.2 = 6 then (some (bt461.2.2.2.1 == (t440.size : Int))) else (none)) else (none)) else (none)) else (none)) else (none))) else (none))) else (none)) else (none)) else (none)) else (none))) else (none)) else (none)))) = some r := by rw [if_neg (show ¬ (false = true) by decide)] at H; exact H
    clear H
    have H := H1
    clear H1
    replace H := Option.bind_eq_some_iff.mp H
    obtain ⟨t440, A220, H⟩ := H
    replace H : (if (t440.size : Int) = 0 then (none) else (if 0 ≤ (Int.tmod (wrap64 (a1)) (t440.size : Int)) then (if (Int.tmod (wrap64 (a1)) (t440.size : Int)) ≤ (t440.size : Int) then ((cattext_Parse.f (t440.extract 0 ((Int.tmod (wrap64 (a1)) (t440.size : Int)) : Int).toNat)).bind fun bt441 => (if (t440.extract 0 ((Int.tmod (wrap64 (a1)) (t440.size : Int)) : Int).toNat).size + 1 ≤ 9223372036854775807 then (if 0 ≤ (wrap64 ((Int.tmod (wrap64 (a1)) (t440.size : Int)) + 1)) then (if (wrap64 ((Int.tmod (wrap64 (a1)) (t440.size : Int)) + 1)) ≤ (t440.size : Int) then (if ((t440.extract 0 ((Int.tmod (wrap64 (a1)) (t440.size : Int)) : Int).toNat) ++ (⟨#[33]⟩ : ByteArray)).size + (t440.extract ((wrap64 ((Int.tmod (wrap64 (a1)) (t440.size : Int)) + 1)) : Int).toNat t440.size).size ≤ 9223372036854775807 then ((cattext_Parse.f (((t440.extract 0 ((Int.tmod (wrap64 (a1)) (t440.size : Int)) : Int).toNat) ++ (⟨#[33]⟩ : ByteArray)) ++ (t440.extract ((wrap64 ((Int.tmod (wrap64 (a1)) (t440.size : Int)) + 1)) : Int).toNat t440.size))).bind fun bt451 => (if t440.size + 1 ≤ 9223372036854775807 then ((cattext_Parse.f (t440 ++ (⟨#[33]⟩ : ByteArray))).bind fun bt461 => (if bt441.2.2.2.2 = 6 then (if bt441.2.2.2.1 = (Int.tmod (wrap64 (a1)) (t440.size : Int)) then (if bt451.2.2.2.2 = 6 then (if bt451.2.2.2.1 = (Int.tmod (wrap64 (a1)) (t440.size : Int)) then (if bt461.2.2.2.2 = 6 then (some (bt461.2.2.2.1 == (t440.size : Int))) else (none)) else (none)) else (none)) else (none)) else (none))) else (none))) else (none)) else (none)) else (none)) else (none))) else (none)) else (none))) = some r := H
    have A22 := Aside0.mk A220
    clear A220
    by_cases c23 : (t440.size : Int) = 0
    ·rw [if_pos c23] at H
     exact absurd H (by simp)
    ·rw [if_neg c23] at H
     have c23b0 : ((t440.size : Int) == 0) = false := beq_eq_false_iff_ne.mpr c23
     have c23b1 : ((t440.size : Int) != 0) = true := bne_iff_ne.mpr c23
     obtain ⟨ji24, hji24⟩ : ∃ j_ : Int, (Int.tmod (wrap64 (a1)) (t440.size : Int)) = j_ := ⟨_, rfl⟩
     replace H : (if 0 ≤ (ji24) then (if (ji24) ≤ (t440.size : Int) then ((cattext_Parse.f (t440.extract 0 ((ji24) : Int).toNat)).bind fun bt441 => (if (t440.extract 0 ((ji24) : Int).toNat).size + 1 ≤ 9223372036854775807 then (if 0 ≤ (wrap64 ((ji24) + 1)) then (if (wrap64 ((ji24) + 1)) ≤ (t440.size : Int) then (if ((t440.extract 0 ((ji24) : Int).toNat) ++ (⟨#[33]⟩ : ByteArray)).size + (t440.extract ((wrap64 ((ji24) + 1)) : Int).toNat t440.size).size ≤ 9223372036854775807 then ((cattext_Parse.f (((t440.extract 0 ((ji24) : Int).toNat) ++ (⟨#[33]⟩ : ByteArray)) ++ (t440.extract ((wrap64 ((ji24) + 1)) : Int).toNat t440.size))).bind fun bt451 => (if t440.size + 1 ≤ 9223372036854775807 then ((cattext_Parse.f (t440 ++ (⟨#[33]⟩ : ByteArray))).bind fun bt461 => (if bt441.2.2.2.2 = 6 then (if bt441.2.2.2.1 = (ji24) then (if bt451.2.2.2.2 = 6 then (if bt451.2.2.2.1 = (ji24) then (if bt461.2.2.2.2 = 6 then (some (bt461.2.2.2.1 == (t440.size : Int))) else (none)) else (none)) else (none)) else (none)) else (none))) else (none))) else (none)) else (none)) else (none)) else (none))) else (none)) else (none)) = some r := by first | (rw [hji24] at H; exact H) | (simp only [hji24] at H ⊢; exact H)
     (try rw [hji24] at A22)
     by_cases c25 : 0 ≤ (ji24)
     ·rw [if_pos c25] at H
      have c25b0 := eq_true c25
      have c25b1 : decide (0 ≤ (ji24)) = true := decide_eq_true c25
      clear c25
      by_cases c26 : (ji24) ≤ (t440.size : Int)
      ·rw [if_pos c26] at H
       have c26b0 := eq_true c26
       have c26b1 : decide ((ji24) ≤ (t440.size : Int)) = true := decide_eq_true c26
       clear c26
       replace H := Option.bind_eq_some_iff.mp H
       obtain ⟨⟨t441, t442, t445, t448, t449⟩, A270, H⟩ := H
       replace H : (if (t440.extract 0 ((ji24) : Int).toNat).size + 1 ≤ 9223372036854775807 then (if 0 ≤ (wrap64 ((ji24) + 1)) then (if (wrap64 ((ji24) + 1)) ≤ (t440.size : Int) then (if ((t440.extract 0 ((ji24) : Int).toNat) ++ (⟨#[33]⟩ : ByteArray)).size + (t440.extract ((wrap64 ((ji24) + 1)) : Int).toNat t440.size).size ≤ 9223372036854775807 then ((cattext_Parse.f (((t440.extract 0 ((ji24) : Int).toNat) ++ (⟨#[33]⟩ : ByteArray)) ++ (t440.extract ((wrap64 ((ji24) + 1)) : Int).toNat t440.size))).bind fun bt451 => (if t440.size + 1 ≤ 9223372036854775807 then ((cattext_Parse.f (t440 ++ (⟨#[33]⟩ : ByteArray))).bind fun bt461 => (if t449 = 6 then (if t448 = (ji24) then (if bt451.2.2.2.2 = 6 then (if bt451.2.2.2.1 = (ji24) then (if bt461.2.2.2.2 = 6 then (some (bt461.2.2.2.1 == (t440.size : Int))) else (none)) else (none)) else (none)) else (none)) else (none))) else (none))) else (none)) else (none)) else (none)) else (none)) = some r := H
       have A27 := Aside0.mk A270
       clear A270
       have c28b0 := eq_true (of_decide_eq_true (by first | (with_reducible assumption) | assumption) : 0 ≤ (ji24))
       have c29b0 := eq_true (of_decide_eq_true (by first | (with_reducible assumption) | assumption) : (ji24) ≤ (t440.size : Int))
       by_cases c30 : (t440.extract 0 ((ji24) : Int).toNat).size + 1 ≤ 9223372036854775807
       ·rw [if_pos c30] at H
        have c30b0 := eq_true c30
        have c30b1 : decide ((t440.extract 0 ((ji24) : Int).toNat).size + 1 ≤ 9223372036854775807) = true := decide_eq_true c30
        have c30e : ji24.toNat + 1 ≤ 9223372036854775807 := by have h_ := c30; have g_ := of_decide_eq_true c26b1; rw [ByteArray.size_extract] at h_; omega
        have c30e0 := eq_true c30e
        have c30e1 : decide (ji24.toNat + 1 ≤ 9223372036854775807) = true := decide_eq_true c30e
        have c30e2 : (9223372036854775807 < ji24.toNat + 1) = False := eq_false (Nat.not_lt.2 c30e)
        try have c30b2 : (9223372036854775807 < (t440.extract 0 ((ji24) : Int).toNat).size + 1) = False := eq_false (Nat.not_lt.2 c30)
        obtain ⟨ji31, hji31⟩ : ∃ j_ : Int, (wrap64 ((ji24) + 1)) = j_ := ⟨_, rfl⟩
        replace H : (if 0 ≤ (ji31) then (if (ji31) ≤ (t440.size : Int) then (if ((t440.extract 0 ((ji24) : Int).toNat) ++ (⟨#[33]⟩ : ByteArray)).size + (t440.extract ((ji31) : Int).toNat t440.size).size ≤ 9223372036854775807 then ((cattext_Parse.f (((t440.extract 0 ((ji24) : Int).toNat) ++ (⟨#[33]⟩ : ByteArray)) ++ (t440.extract ((ji31) : Int).toNat t440.size))).bind fun bt451 => (if t440.size + 1 ≤ 9223372036854775807 then ((cattext_Parse.f (t440 ++ (⟨#[33]⟩ : ByteArray))).bind fun bt461 => (if t449 = 6 then (if t448 = (ji24) then (if bt451.2.2.2.2 = 6 then (if bt451.2.2.2.1 = (ji24) then (if bt461.2.2.2.2 = 6 then (some (bt461.2.2.2.1 == (t440.size : Int))) else (none)) else (none)) else (none)) else (none)) else (none))) else (none))) else (none)) else (none)) else (none)) = some r := by first | (rw [hji31] at H; exact H) | (simp only [hji31] at H ⊢; exact H)
        (try rw [hji31] at A22)
        (try rw [hji31] at A27)
        have hji31w : (IntKind.i64.wrap ((ji24) + 1)) = ji31 := (i64_w _).trans hji31
        by_cases c32 : 0 ≤ (ji31)
        ·rw [if_pos c32] at H
         have c32b0 := eq_true c32
         have c32b1 : decide (0 ≤ (ji31)) = true := decide_eq_true c32
         clear c32
         by_cases c33 : (ji31) ≤ (t440.size : Int)
         ·rw [if_pos c33] at H
          have c33b0 := eq_true c33
          have c33b1 : decide ((ji31) ≤ (t440.size : Int)) = true := decide_eq_true c33
          clear c33
          by_cases c34 : ((t440.extract 0 ((ji24) : Int).toNat) ++ (⟨#[33]⟩ : ByteArray)).size + (t440.extract ((ji31) : Int).toNat t440.size).size ≤ 9223372036854775807
          ·rw [if_pos c34] at H
           have c34b0 := eq_true c34
           have c34b1 : decide (((t440.extract 0 ((ji24) : Int).toNat) ++ (⟨#[33]⟩ : ByteArray)).size + (t440.extract ((ji31) : Int).toNat t440.size).size ≤ 9223372036854775807) = true := decide_eq_true c34
           have c34e : ji24.toNat + 1 + (t440.size - ji31.toNat) ≤ 9223372036854775807 := by have h_ := c34; have g_ := of_decide_eq_true c26b1; rw [ByteArray.size_append, ByteArray.size_extract, ByteArray.size_extract] at h_; have h1_ : (⟨#[33]⟩ : ByteArray).size = 1 := rfl; omega
           have c34e0 := eq_true c34e
           have c34e1 : decide (ji24.toNat + 1 + (t440.size - ji31.toNat) ≤ 9223372036854775807) = true := decide_eq_true c34e
           have c34e2 : (9223372036854775807 < ji24.toNat + 1 + (t440.size - ji31.toNat)) = False := eq_false (Nat.not_lt.2 c34e)
           try have c34b2 : (9223372036854775807 < ((t440.extract 0 ((ji24) : Int).toNat) ++ (⟨#[33]⟩ : ByteArray)).size + (t440.extract ((ji31) : Int).toNat t440.size).size) = False := eq_false (Nat.not_lt.2 c34)
           replace H := Option.bind_eq_some_iff.mp H
           obtain ⟨⟨t451, t452, t455, t458, t459⟩, A350, H⟩ := H
           replace H : (if t440.size + 1 ≤ 9223372036854775807 then ((cattext_Parse.f (t440 ++ (⟨#[33]⟩ : ByteArray))).bind fun bt461 => (if t449 = 6 then (if t448 = (ji24) then (if t459 = 6 then (if t458 = (ji24) then (if bt461.2.2.2.2 = 6 then (some (bt461.2.2.2.1 == (t440.size : Int))) else (none)) else (none)) else (none)) else (none)) else (none))) else (none)) = some r := H
           have A35 := Aside0.mk A350
           clear A350
           by_cases c36 : t440.size + 1 ≤ 9223372036854775807
           ·rw [if_pos c36] at H
            have c36b0 := eq_true c36
            have c36b1 : decide (t440.size + 1 ≤ 9223372036854775807) = true := decide_eq_true c36
            try have c36b2 : (9223372036854775807 < t440.size + 1) = False := eq_false (Nat.not_lt.2 c36)
            replace H := Option.bind_eq_some_iff.mp H
            obtain ⟨⟨t461, t462, t465, t468, t469⟩, A370, H⟩ := H
            replace H : (if t449 = 6 then (if t448 = (ji24) then (if t459 = 6 then (if t458 = (ji24) then (if t469 = 6 then (some (t468 == (t440.size : Int))) else (none)) else (none)) else (none)) else (none)) else (none)) = some r := H
            have A37 := Aside0.mk A370
            clear A370
            by_cases c38 : t449 = 6
            ·rw [if_pos c38] at H
             have c38b0 : (t449 == 6) = true := beq_iff_eq.mpr c38
             have c38b1 : (t449 != 6) = false := bne_eq_false_iff_eq.mpr c38
             clear c38
             by_cases c39 : t448 = (ji24)
             ·rw [if_pos c39] at H
              have c39b0 : (t448 == (ji24)) = true := beq_iff_eq.mpr c39
              have c39b1 : (t448 != (ji24)) = false := bne_eq_false_iff_eq.mpr c39
              clear c39
              by_cases c40 : t459 = 6
              ·rw [if_pos c40] at H
               have c40b0 : (t459 == 6) = true := beq_iff_eq.mpr c40
               have c40b1 : (t459 != 6) = false := bne_eq_false_iff_eq.mpr c40
               clear c40
               by_cases c41 : t458 = (ji24)
               ·rw [if_pos c41] at H
                have c41b0 : (t458 == (ji24)) = true := beq_iff_eq.mpr c41
                have c41b1 : (t458 != (ji24)) = false := bne_eq_false_iff_eq.mpr c41
                clear c41
                by_cases c42 : t469 = 6
                ·rw [if_pos c42] at H
                 have c42b0 : (t469 == 6) = true := beq_iff_eq.mpr c42
                 have c42b1 : (t469 != 6) = false := bne_eq_false_iff_eq.mpr c42
                 clear c42
                 obtain rfl := Option.some.inj H
                 have hcz43_0 : wc.cell? ⟨gb435, 0, none⟩ = some (.int .i64 a0_0) := (blk_cell BK435.out 0).trans rfl
                 have hcz43_1 : wc.cell? ⟨gb435, 1, none⟩ = some (.slice A0_1 l0_1.length c0_1) := (blk_cell BK435.out 1).trans rfl
                 have hcz43_2 : wc.cell? ⟨gb435, 2, none⟩ = some (.slice A0_2 l0_2.length c0_2) := (blk_cell BK435.out 2).trans rfl
                 have hfz43_0 := blk_frozen BK435.out 0
                 have hfz43_1 := blk_frozen BK435.out 1
                 have hfz43_2 := blk_frozen BK435.out 2
                 try go_wp2_with (first | ((with_reducible refine gate_callee (f := 15) rfl ?_); refine goesL_ (some 30) rfl rfl Tryd.func15 (by kernel_rfl) rfl #[.agg #[.int .i64 a0_0, .slice A0_1 l0_1.length c0_1, .slice A0_2 l0_2.length c0_2]] rfl (by (try simp only [List.map_toArray, List.map_cons, List.map_nil]); first | done | rfl | (simp only [List.length_drop, List.length_take]; rfl)) ?_; (with_reducible refine (computusref26_Print.calls kj2 a0_0 _ _ l0_1 _ _ l0_2 t440 _ ?side1 ?side2 ?side3 ?side4 A22.out).mono ?_); (case side1 => repeat (first | exact (Kd.C_below HR0_1.out HB.out) | (with_reducible refine Kd.C_alloc ?_ _) | (with_reducible refine Kd.C_drewN ?_ _) | (with_reducible refine Kd.C_drew ?_))); (case side2 => exact HC0_1.out); (case side3 => repeat (first | exact (Kd.C_below HR0_2.out HB.out) | (with_reducible refine Kd.C_alloc ?_ _) | (with_reducible refine Kd.C_drewN ?_ _) | (with_reducible refine Kd.C_drew ?_))); (case side4 => exact HC0_2.out); rintro e w44 ⟨rfl, hb⟩; refine ⟨_, rfl, ?_⟩; have n0_ := Aside0.mk (blk_below (g := gb435) (o := .cells #[.int .i64 a0_0, .slice A0_1 l0_1.length c0_1, .slice A0_2 l0_2.length c0_2] 26 (0, 0)) (by (with_reducible repeat (first | refine blk_drewN ?_ _ | refine blk_drew ?_ | refine blk_alloc ?_ _)); exact BK435.out) hb); have n1_ := Aside0.mk (below_step (by repeat (first | (with_reducible first | exact HB.out | apply below_alloc | apply pw_below_drewN | apply below_drew1 | refine below_set ?_ GE435.out) | exact HB.out)) hb); clear BK435; clear HB; have BK435 := n0_; have HB := n1_; clear n0_ n1_; (try clear hb); (try clear hb2); (try clear hk); (try clear hi)) | ((with_reducible refine gate_callee (f := 9) rfl ?_); refine goesL_ (some 40) rfl rfl Tryd.func9 (by kernel_rfl) rfl #[.string (t440.extract 0 ((ji24) : Int).toNat)] rfl (by (try simp only [List.map_toArray, List.map_cons, List.map_nil]); first | done | (simp only [hji24]; rfl) | rfl | (simp only [List.length_drop, List.length_take]; rfl)) ?_; (with_reducible refine (cattext_Parse.calls (hT := Tabs.below HTAB.out (by repeat (first | (with_reducible first | exact HB.out | apply below_alloc | apply pw_below_drewN | apply below_drew1 | refine below_set ?_ (by assumption) | refine below_set ?_ GE435.out | refine below_set ?_ GE450.out | refine below_set ?_ GE460.out | refine below_set ?_ GE470.out) | exact HB.out))) (t440.extract 0 ((ji24) : Int).toNat) t441 t442 t445 t448 t449 _ A27.out).mono ?_); rintro e w45 ⟨v443, v446, rfl, ho0, ho1, hb⟩; refine ⟨_, rfl, ?_⟩; have n0_ := Aside0.mk (Kd.R_lower ho0 (below_size (by repeat (first | (with_reducible first | exact HB.out | apply below_alloc | apply pw_below_drewN | apply below_drew1 | refine below_set ?_ GE435.out) | exact HB.out)))); have n1_ := Aside0.mk (Kd.R_lower ho1 (below_size (by repeat (first | (with_reducible first | exact HB.out | apply below_alloc | apply pw_below_drewN | apply below_drew1 | refine below_set ?_ GE435.out) | exact HB.out)))); have n2_ := Aside0.mk (blk_below (g := gb435) (o := .cells #[.int .i64 a0_0, .slice A0_1 l0_1.length c0_1, .slice A0_2 l0_2.length c0_2] 26 (0, 0)) (by (with_reducible repeat (first | refine blk_drewN ?_ _ | refine blk_drew ?_ | refine blk_alloc ?_ _)); exact BK435.out) hb); have n3_ := Aside0.mk (below_step (by repeat (first | (with_reducible first | exact HB.out | apply below_alloc | apply pw_below_drewN | apply below_drew1 | refine below_set ?_ GE435.out) | exact HB.out)) hb); clear BK435; clear HB; have HO444 := n0_; have HO447 := n1_; have BK435 := n2_; have HB := n3_; clear n0_ n1_ n2_ n3_; (try clear hb); (try clear hb2); (try clear hk); (try clear hi); (try clear ho0); (try clear ho1)) | ((with_reducible refine gate_dst (N := 7) rfl ?_); (try (refine gate_guard (by rfl) ?_; dsimp only)); refine box_event ?hg (N := 7) ?hd (cs := #[.int .i64 0, .slice none 0 0, .slice none 0 0]) (t := 26) ?hr ?_; (case hd => rfl); (case hg => rfl); (case hr => first | (go_simp; done) | (go_simp; rfl)); intro gb450 hg w46 hbox hb; have n0_ := Aside0.mk (Kd.R_below (by (with_reducible repeat (first | apply Kd.R_alloc | apply Kd.R_drewN | apply Kd.R_drew)); exact HO444.out) hb); have n1_ := Aside0.mk (Kd.R_below (by (with_reducible repeat (first | apply Kd.R_alloc | apply Kd.R_drewN | apply Kd.R_drew)); exact HO447.out) hb); have n2_ := Aside0.mk (blk_below (g := gb435) (o := .cells #[.int .i64 a0_0, .slice A0_1 l0_1.length c0_1, .slice A0_2 l0_2.length c0_2] 26 (0, 0)) (by (with_reducible repeat (first | refine blk_drewN ?_ _ | refine blk_drew ?_ | refine blk_alloc ?_ _)); exact BK435.out) hb); have n3_ := Aside0.mk (below_step (by repeat (first | (with_reducible first | exact HB.out | apply below_alloc | apply pw_below_drewN | apply below_drew1 | refine below_set ?_ GE435.out) | exact HB.out)) hb); have n4_ := Aside0.mk (hbox); have n5_ := Aside0.mk ((by rw [hg]; exact (below_size (by repeat (first | (with_reducible first | exact HB.out | apply below_alloc | apply pw_below_drewN | apply below_drew1 | refine below_set ?_ GE435.out) | exact HB.out))) : w.heap.size ≤ gb450)); have n6_ := Aside0.mk ((by rw [hg]; exact (below_size (by repeat (first | (with_reducible first | exact HB.out | apply below_alloc | apply pw_below_drewN | apply below_drew1 | refine below_set ?_ GE435.out) | exact HB.out))) : w.heap.size ≤ gb450)); have n7_ := Aside0.mk ((by rw [hg]; exact Nat.ne_of_lt (blk_lt (g := gb435) (o := .cells #[.int .i64 a0_0, .slice A0_1 l0_1.length c0_1, .slice A0_2 l0_2.length c0_2] 26 (0, 0)) (by (with_reducible repeat (first | refine blk_drewN ?_ _ | refine blk_drew ?_ | refine blk_alloc ?_ _)); exact BK435.out)) : gb435 ≠ gb450)); have n8_ := Aside0.mk ((by rw [hg]; exact Nat.ne_of_gt (blk_lt (g := gb435) (o := .cells #[.int .i64 a0_0, .slice A0_1 l0_1.length c0_1, .slice A0_2 l0_2.length c0_2] 26 (0, 0)) (by (with_reducible repeat (first | refine blk_drewN ?_ _ | refine blk_drew ?_ | refine blk_alloc ?_ _)); exact BK435.out)) : gb450 ≠ gb435)); clear HO444; clear HO447; clear BK435; clear HB; have HO444 := n0_; have HO447 := n1_; have BK435 := n2_; have HB := n3_; have BK450 := n4_; have GW450 := n5_; have GE450 := n6_; have NB435_450 := n7_; have NB450_435 := n8_; clear n0_ n1_ n2_ n3_ n4_ n5_ n6_ n7_ n8_; clear hb hbox hg; have hnb47 := NB450_435.out; have hnc47 := NB435_450.out; have hcz48_0 : w46.cell? ⟨gb450, 0, none⟩ = some (.int .i64 0) := (blk_cell BK450.out 0).trans rfl; have hcz48_1 : w46.cell? ⟨gb450, 1, none⟩ = some (.slice none 0 0) := (blk_cell BK450.out 1).trans rfl; have hcz48_2 : w46.cell? ⟨gb450, 2, none⟩ = some (.slice none 0 0) := (blk_cell BK450.out 2).trans rfl; have hfz48_0 := blk_frozen BK450.out 0; have hfz48_1 := blk_frozen BK450.out 1; have hfz48_2 := blk_frozen BK450.out 2; obtain ⟨Ao49, co49, eo49⟩ := Kd.R_slice HO444.out; subst eo49; obtain ⟨Ao50, co50, eo50⟩ := Kd.R_slice HO447.out; subst eo50))
                 have n0_ : Aside0 (Kd.R k41 41 (((w46.setCell ⟨gb450, 0, none⟩ (.int .i64 t441)).setCell ⟨gb450, 1, none⟩ (.slice Ao49 t442.length co49)).setCell ⟨gb450, 2, none⟩ (.slice Ao50 t445.length co50)) w.heap.size (fun _ => True) (.slice Ao49 t442.length co49) t442) := ⟨by (with_reducible repeat (first | apply Kd.R_alloc | apply Kd.R_drewN | apply Kd.R_drew)); exact Kd.R_mono (Kd.R_far (p := ⟨gb450, 2, none⟩) (Kd.R_far (p := ⟨gb450, 1, none⟩) (Kd.R_far (p := ⟨gb450, 0, none⟩) (Kd.R_types HO444.out BK450.out (by decide)) (fun _ hk => hk.2) (.int .i64 t441)) (fun _ hk => hk.2) (.slice Ao49 t442.length co49)) (fun _ hk => hk.2) (.slice Ao50 t445.length co50)) (fun _ hk => trivial)⟩
                 have n1_ : Aside0 (Kd.R k43 43 (((w46.setCell ⟨gb450, 0, none⟩ (.int .i64 t441)).setCell ⟨gb450, 1, none⟩ (.slice Ao49 t442.length co49)).setCell ⟨gb450, 2, none⟩ (.slice Ao50 t445.length co50)) w.heap.size (fun _ => True) (.slice Ao50 t445.length co50) t445) := ⟨by (with_reducible repeat (first | apply Kd.R_alloc | apply Kd.R_drewN | apply Kd.R_drew)); exact Kd.R_mono (Kd.R_far (p := ⟨gb450, 2, none⟩) (Kd.R_far (p := ⟨gb450, 1, none⟩) (Kd.R_far (p := ⟨gb450, 0, none⟩) (Kd.R_types HO447.out BK450.out (by decide)) (fun _ hk => hk.2) (.int .i64 t441)) (fun _ hk => hk.2) (.slice Ao49 t442.length co49)) (fun _ hk => hk.2) (.slice Ao50 t445.length co50)) (fun _ hk => trivial)⟩
                 have n2_ : Aside0 ((((w46.setCell ⟨gb450, 0, none⟩ (.int .i64 t441)).setCell ⟨gb450, 1, none⟩ (.slice Ao49 t442.length co49)).setCell ⟨gb450, 2, none⟩ (.slice Ao50 t445.length co50)).heap[gb435]? = some (.cells #[.int .i64 a0_0, .slice A0_1 l0_1.length c0_1, .slice A0_2 l0_2.length c0_2] 26 (0, 0))) := ⟨by (with_reducible repeat (first | refine blk_drewN ?_ _ | refine blk_drew ?_ | refine blk_alloc ?_ _)); refine blk_far ?_ NB435_450.out _; (with_reducible repeat (first | refine blk_drewN ?_ _ | refine blk_drew ?_ | refine blk_alloc ?_ _)); refine blk_far ?_ NB435_450.out _; (with_reducible repeat (first | refine blk_drewN ?_ _ | refine blk_drew ?_ | refine blk_alloc ?_ _)); refine blk_far ?_ NB435_450.out _; (with_reducible repeat (first | refine blk_drewN ?_ _ | refine blk_drew ?_ | refine blk_alloc ?_ _)); exact BK435.out⟩
                 have n3_ : Aside0 ((((w46.setCell ⟨gb450, 0, none⟩ (.int .i64 t441)).setCell ⟨gb450, 1, none⟩ (.slice Ao49 t442.length co49)).setCell ⟨gb450, 2, none⟩ (.slice Ao50 t445.length co50)).heap[gb450]? = some (.cells #[.int .i64 t441, .slice Ao49 t442.length co49, .slice Ao50 t445.length co50] 26 (0, 0))) := ⟨by (with_reducible repeat (first | refine blk_drewN ?_ _ | refine blk_drew ?_ | refine blk_alloc ?_ _)); refine blk_put (cs := #[.int .i64 t441, .slice Ao49 t442.length co49, .slice none 0 0]) ?_ 2 _ rfl; (with_reducible repeat (first | refine blk_drewN ?_ _ | refine blk_drew ?_ | refine blk_alloc ?_ _)); refine blk_put (cs := #[.int .i64 t441, .slice none 0 0, .slice none 0 0]) ?_ 1 _ rfl; (with_reducible repeat (first | refine blk_drewN ?_ _ | refine blk_drew ?_ | refine blk_alloc ?_ _)); refine blk_put (cs := #[.int .i64 0, .slice none 0 0, .slice none 0 0]) ?_ 0 _ rfl; (with_reducible repeat (first | refine blk_drewN ?_ _ | refine blk_drew ?_ | refine blk_alloc ?_ _)); exact BK450.out⟩
                 have n4_ : Aside0 (Below w.heap.size w (((w46.setCell ⟨gb450, 0, none⟩ (.int .i64 t441)).setCell ⟨gb450, 1, none⟩ (.slice Ao49 t442.length co49)).setCell ⟨gb450, 2, none⟩ (.slice Ao50 t445.length co50))) := ⟨by repeat (first | (with_reducible first | exact HB.out | apply below_alloc | apply pw_below_drewN | apply below_drew1 | refine below_set ?_ GE435.out | refine below_set ?_ GE450.out) | exact HB.out)⟩
                 (try clear HO444)
                 (try clear HO447)
                 (try clear BK435)
                 (try clear BK450)
                 (try clear HB)
                 generalize (((w46.setCell ⟨gb450, 0, none⟩ (.int .i64 t441)).setCell ⟨gb450, 1, none⟩ (.slice Ao49 t442.length co49)).setCell ⟨gb450, 2, none⟩ (.slice Ao50 t445.length co50)) = w51 at n0_ n1_ n2_ n3_ n4_ ⊢
                 have HO444 := n0_
                 have HO447 := n1_
                 have BK435 := n2_
                 have BK450 := n3_
                 have HB := n4_
                 clear n0_ n1_ n2_ n3_ n4_
                 have n0_ := Aside0.mk (Kd.R_drew HO444.out)
                 have n1_ := Aside0.mk (Kd.R_drew HO447.out)
                 have n2_ := Aside0.mk (blk_drew BK435.out)
                 have n3_ := Aside0.mk (blk_drew BK450.out)
                 have n4_ := Aside0.mk (below_drew1 HB.out)
                 clear HO444
                 clear HO447
                 clear BK435
                 clear BK450
                 clear HB
                 have HO444 := n0_
                 have HO447 := n1_
                 have BK435 := n2_
                 have BK450 := n3_
                 have HB := n4_
                 clear n0_ n1_ n2_ n3_ n4_
                 refine start_ (n := 18) (S := fun w' => True) (ds := []) #[false, false, false, false, false, false, false, false, false, false, false, false, false, false, false, false, false, false] (by kernel_rfl) rfl rfl trivial (fun hHeld => ?_); refine with_tabW computuslaw26_CattextOffsets.tab6 computuslaw26_CattextOffsets.bits6 (fun HT_ HW_ => ?_)
                 generalize w51.drew = w52 at HO444 HO447 BK435 BK450 HB hHeld ⊢
                 refine pure_ (i := 0) (N := some 45) (v := ?_) (a' := ?_) #[true, false, false, false, false, false, false, false, false, false, false, false, false, false, false, false, false, false] rfl rfl (any_of HT_.out (by kernel_rfl)) (fun _ _ _ h => h) (Or.inl ⟨by rfl, ?_⟩) ?_ ?_
                 rotate_left
                 ·intro w'
                  go_simp
                  with_reducible rfl
                 rotate_left
                 ·simp only [Act.put, List.setIfInBounds_toArray, List.set_cons_zero, List.set_cons_succ, i64_w, i32_w]
                  rfl
                 refine pure_ (i := 1) (N := some 46) (v := ?_) (a' := ?_) #[true, true, false, false, false, false, false, false, false, false, false, false, false, false, false, false, false, false] rfl rfl (any_of HT_.out (by kernel_rfl)) (fun _ _ _ h => h) (Or.inl ⟨by rfl, ?_⟩) ?_ ?_
                 rotate_left
                 ·intro w'
                  go_simp
                  with_reducible rfl
                 rotate_left
                 ·simp only [Act.put, List.setIfInBounds_toArray, List.set_cons_zero, List.set_cons_succ, i64_w, i32_w]
                  rfl
                 refine pure_ (i := 2) (N := some 47) (v := ?_) (a' := ?_) #[true, true, true, false, false, false, false, false, false, false, false, false, false, false, false, false, false, false] rfl rfl (any_of HT_.out (by kernel_rfl)) (fun _ _ _ h => h) (Or.inl ⟨by rfl, ?_⟩) ?_ ?_
                 rotate_left
                 ·intro w'
                  go_simp
                  with_reducible rfl
                 rotate_left
                 ·simp only [Act.put, List.setIfInBounds_toArray, List.set_cons_zero, List.set_cons_succ, i64_w, i32_w]
                  rfl
                 refine pure_ (i := 3) (N := some 48) (v := ?_) (a' := ?_) #[true, true, true, true, false, false, false, false, false, false, false, false, false, false, false, false, false, false] rfl rfl (any_of HT_.out (by kernel_rfl)) (fun _ _ _ h => h) (Or.inl ⟨by rfl, ?_⟩) ?_ ?_
                 rotate_left
                 ·intro w'
                  go_simp
                  with_reducible rfl
                 rotate_left
                 ·simp only [Act.put, List.setIfInBounds_toArray, List.set_cons_zero, List.set_cons_succ, i64_w, i32_w]
                  rfl
                 refine pure_ (i := 4) (N := some 49) (v := ?_) (a' := ?_) #[true, true, true, true, true, false, false, false, false, false, false, false, false, false, false, false, false, false] rfl rfl (any_of HT_.out (by kernel_rfl)) (fun _ _ _ h => h) (Or.inl ⟨by rfl, ?_⟩) ?_ ?_
                 rotate_left
                 ·intro w'
                  go_simp
                  with_reducible rfl
                 rotate_left
                 ·simp only [Act.put, List.setIfInBounds_toArray, List.set_cons_zero, List.set_cons_succ, i64_w, i32_w]
                  rfl
                 refine pure_ (i := 5) (N := some 50) (v := ?_) (a' := ?_) #[true, true, true, true, true, true, false, false, false, false, false, false, false, false, false, false, false, false] rfl rfl (any_of HT_.out (by kernel_rfl)) (fun _ _ _ h => h) (Or.inl ⟨by rfl, ?_⟩) ?_ ?_
                 rotate_left
                 ·intro w'
                  go_simp
                  with_reducible rfl
                 rotate_left
                 ·simp only [Act.put, List.setIfInBounds_toArray, List.set_cons_zero, List.set_cons_succ, i64_w, i32_w]
                  rfl
                 refine pure_ (i := 6) (N := some 51) (v := ?_) (a' := ?_) #[true, true, true, true, true, true, true, false, false, false, false, false, false, false, false, false, false, false] rfl rfl (any_of HT_.out (by kernel_rfl)) (fun _ _ _ h => h) (Or.inl ⟨by rfl, ?_⟩) ?_ ?_
                 rotate_left
                 ·intro w'
                  go_simp
                  with_reducible rfl
                 rotate_left
                 ·simp only [Act.put, List.setIfInBounds_toArray, List.set_cons_zero, List.set_cons_succ, i64_w, i32_w]
                  rfl
                 refine pure_ (i := 7) (N := some 52) (v := ?_) (a' := ?_) #[true, true, true, true, true, true, true, true, false, false, false, false, false, false, false, false, false, false] rfl rfl (any_of HT_.out (by kernel_rfl)) (fun _ _ _ h => h) (Or.inl ⟨by rfl, ?_⟩) ?_ ?_
                 rotate_left
                 ·intro w'
                  go_simp
                  with_reducible rfl
                 rotate_left
                 ·simp only [Act.put, List.setIfInBounds_toArray, List.set_cons_zero, List.set_cons_succ, i64_w, i32_w]
                  rfl
                 refine pure_ (i := 8) (N := some 53) (v := ?_) (a' := ?_) #[true, true, true, true, true, true, true, true, true, false, false, false, false, false, false, false, false, false] rfl rfl (any_of HT_.out (by kernel_rfl)) (fun _ _ _ h => h) (Or.inl ⟨by rfl, ?_⟩) ?_ ?_
                 rotate_left
                 ·intro w'
                  go_simp
                  with_reducible rfl
                 rotate_left
                 ·simp only [Act.put, List.setIfInBounds_toArray, List.set_cons_zero, List.set_cons_succ, i64_w, i32_w]
                  rfl
                 refine join_ (σ := Value × Value × Nat) 3 #[true, true, true, true, true, true, true, true, true, true, true, true, true, true, true, false, false, false] (fun s_ => [(54, .tuple #[.agg #[.int .i64 t451, s_.1, s_.2.1], .int .i64 t458, .int .i64 t459]), (10, .pointer (some ⟨s_.2.2, 0, none⟩)), (44, .tuple #[.agg #[.int .i64 t451, s_.1, s_.2.1], .int .i64 t458, .int .i64 t459]), (55, .agg #[.int .i64 t451, s_.1, s_.2.1]), (56, .int .i64 t458), (57, .int .i64 t459)]) (fun s_ w' => (Kd.R k41 41 w' w.heap.size (fun k_ => some k_ ≠ (s_.1 : Value).ownBlock) (.slice Ao49 t442.length co49) t442) ∧ (Kd.R k43 43 w' w.heap.size (fun k_ => some k_ ≠ (s_.2.1 : Value).ownBlock) (.slice Ao50 t445.length co50) t445) ∧ (Kd.R k41 41 w' w.heap.size (fun k_ => some k_ ≠ (.slice Ao49 t442.length co49 : Value).ownBlock) s_.1 t452) ∧ (Kd.R k43 43 w' w.heap.size (fun k_ => some k_ ≠ (.slice Ao50 t445.length co50 : Value).ownBlock) s_.2.1 t455) ∧ (w'.heap[gb435]? = some (.cells #[.int .i64 a0_0, .slice A0_1 l0_1.length c0_1, .slice A0_2 l0_2.length c0_2] 26 (0, 0))) ∧ (w'.heap[gb450]? = some (.cells #[.int .i64 t441, .slice Ao49 t442.length co49, .slice Ao50 t445.length co50] 26 (0, 0))) ∧ (w'.heap[s_.2.2]? = some (.cells #[.int .i64 0, .slice none 0 0, .slice none 0 0] 26 (0, 0))) ∧ (w.heap.size ≤ s_.2.2) ∧ (w.heap.size ≤ s_.2.2) ∧ (gb435 ≠ s_.2.2) ∧ (s_.2.2 ≠ gb435) ∧ (gb450 ≠ s_.2.2) ∧ (s_.2.2 ≠ gb450) ∧ (Below w.heap.size w w')) ?_ ?_
                 rotate_left
                 ·intro hCont
                  refine two_ (i := 9) (j := 14) (Ni := some 54) (Nj := some 10) #[true, true, true, true, true, true, true, true, true, true, false, false, false, false, false, false, false, false] #[true, true, true, true, true, true, true, true, true, false, false, false, false, false, true, false, false, false] rfl rfl rfl rfl (two_of HT_.out (by kernel_rfl)) (by decide) (by decide) (fun K hK => ?_) (fun K hK => ?_)
                  ·skip
                   refine goes_ Tryd.func9 (by kernel_rfl) rfl #[.string (((t440.extract 0 ((ji24) : Int).toNat) ++ (⟨#[33]⟩ : ByteArray)) ++ (t440.extract ((ji31) : Int).toNat t440.size))] (by rfl) rfl rfl (by (try simp only [List.map_toArray, List.map_cons, List.map_nil]); first | done | (simp only [hji24, hji31]; rfl) | rfl | (simp only [List.length_drop, List.length_take]; rfl)) ?_
                   with_reducible refine (cattext_Parse.calls (hT := Tabs.below HTAB.out (by repeat (first | (with_reducible first | exact HB.out | apply below_alloc | apply pw_below_drewN | apply below_drew1 | refine below_set ?_ (by assumption) | refine below_set ?_ GE435.out | refine below_set ?_ GE450.out | refine below_set ?_ GE460.out | refine below_set ?_ GE470.out) | exact HB.out))) (((t440.extract 0 ((ji24) : Int).toNat) ++ (⟨#[33]⟩ : ByteArray)) ++ (t440.extract ((ji31) : Int).toNat t440.size)) t451 t452 t455 t458 t459 _ A35.out).mono ?_
                   rintro e w53 ⟨v453, v456, rfl, ho0, ho1, hb⟩
                   refine ⟨_, rfl, ?_⟩
                   have n0_ := Aside0.mk (Kd.R_elder' (by (with_reducible repeat (first | apply Kd.R_alloc | apply Kd.R_drewN | apply Kd.R_drew)); exact HO444.out) (Kd.R_base ho0) hb)
                   have n1_ := Aside0.mk (Kd.R_elder' (by (with_reducible repeat (first | apply Kd.R_alloc | apply Kd.R_drewN | apply Kd.R_drew)); exact HO447.out) (Kd.R_base ho1) hb)
                   have n2_ := Aside0.mk (Kd.R_lower (Kd.R_new' ho0 (Kd.R_lt (by (with_reducible repeat (first | apply Kd.R_alloc | apply Kd.R_drewN | apply Kd.R_drew)); exact HO444.out))) (below_size (by repeat (first | (with_reducible first | exact HB.out | apply below_alloc | apply pw_below_drewN | apply below_drew1 | refine below_set ?_ GE435.out | refine below_set ?_ GE450.out) | exact HB.out))))
                   have n3_ := Aside0.mk (Kd.R_lower (Kd.R_new' ho1 (Kd.R_lt (by (with_reducible repeat (first | apply Kd.R_alloc | apply Kd.R_drewN | apply Kd.R_drew)); exact HO447.out))) (below_size (by repeat (first | (with_reducible first | exact HB.out | apply below_alloc | apply pw_below_drewN | apply below_drew1 | refine below_set ?_ GE435.out | refine below_set ?_ GE450.out) | exact HB.out))))
                   have n4_ := Aside0.mk (blk_below (g := gb435) (o := .cells #[.int .i64 a0_0, .slice A0_1 l0_1.length c0_1, .slice A0_2 l0_2.length c0_2] 26 (0, 0)) (by (with_reducible repeat (first | refine blk_drewN ?_ _ | refine blk_drew ?_ | refine blk_alloc ?_ _)); exact BK435.out) hb)
                   have n5_ := Aside0.mk (blk_below (g := gb450) (o := .cells #[.int .i64 t441, .slice Ao49 t442.length co49, .slice Ao50 t445.length co50] 26 (0, 0)) (by (with_reducible repeat (first | refine blk_drewN ?_ _ | refine blk_drew ?_ | refine blk_alloc ?_ _)); exact BK450.out) hb)
                   have n6_ := Aside0.mk (below_step (by repeat (first | (with_reducible first | exact HB.out | apply below_alloc | apply pw_below_drewN | apply below_drew1 | refine below_set ?_ GE435.out | refine below_set ?_ GE450.out) | exact HB.out)) hb)
                   clear HO444
                   clear HO447
                   clear BK435
                   clear BK450
                   clear HB
                   have HO444 := n0_
                   have HO447 := n1_
                   have HO454 := n2_
                   have HO457 := n3_
                   have BK435 := n4_
                   have BK450 := n5_
                   have HB := n6_
                   clear n0_ n1_ n2_ n3_ n4_ n5_ n6_
                   (try clear hb)
                   (try clear hb2)
                   (try clear hk)
                   (try clear hi)
                   (try clear ho0)
                   (try clear ho1)
                   refine hK.out _ _ trivial (fun hHeld => ?_)
                   clear hK K
                   refine norm_ (a' := ?_) ?_ ?_
                   rotate_left
                   ·show Act.put _ (some 54) _ = _
                    simp only [Act.put, List.setIfInBounds_toArray, List.set_cons_zero, List.set_cons_succ, i64_w, i32_w]
                    rfl
                   refine pure_ (i := 10) (N := some 44) (v := ?_) (a' := ?_) #[true, true, true, true, true, true, true, true, true, true, true, false, false, false, false, false, false, false] rfl rfl (any_of HT_.out (by kernel_rfl)) (fun _ _ _ h => h) (Or.inl ⟨by rfl, ?_⟩) ?_ ?_
                   rotate_left
                   ·intro w'
                    go_simp
                    with_reducible rfl
                   rotate_left
                   ·simp only [Act.put, List.setIfInBounds_toArray, List.set_cons_zero, List.set_cons_succ, i64_w, i32_w]
                    rfl
                   refine pure_ (i := 11) (N := some 55) (v := ?_) (a' := ?_) #[true, true, true, true, true, true, true, true, true, true, true, true, false, false, false, false, false, false] rfl rfl (any_of HT_.out (by kernel_rfl)) (fun _ _ _ h => h) (Or.inl ⟨by rfl, ?_⟩) ?_ ?_
                   rotate_left
                   ·intro w'
                    go_simp
                    with_reducible rfl
                   rotate_left
                   ·simp only [Act.put, List.setIfInBounds_toArray, List.set_cons_zero, List.set_cons_succ, i64_w, i32_w]
                    rfl
                   refine pure_ (i := 12) (N := some 56) (v := ?_) (a' := ?_) #[true, true, true, true, true, true, true, true, true, true, true, true, true, false, false, false, false, false] rfl rfl (any_of HT_.out (by kernel_rfl)) (fun _ _ _ h => h) (Or.inl ⟨by rfl, ?_⟩) ?_ ?_
                   rotate_left
                   ·intro w'
                    go_simp
                    with_reducible rfl
                   rotate_left
                   ·simp only [Act.put, List.setIfInBounds_toArray, List.set_cons_zero, List.set_cons_succ, i64_w, i32_w]
                    rfl
                   refine pure_ (i := 13) (N := some 57) (v := ?_) (a' := ?_) #[true, true, true, true, true, true, true, true, true, true, true, true, true, true, false, false, false, false] rfl rfl (any_of HT_.out (by kernel_rfl)) (fun _ _ _ h => h) (Or.inl ⟨by rfl, ?_⟩) ?_ ?_
                   rotate_left
                   ·intro w'
                    go_simp
                    with_reducible rfl
                   rotate_left
                   ·simp only [Act.put, List.setIfInBounds_toArray, List.set_cons_zero, List.set_cons_succ, i64_w, i32_w]
                    rfl
                   refine one_ (i := 14) (N := some 10) #[true, true, true, true, true, true, true, true, true, true, true, true, true, true, true, false, false, false] rfl rfl (one_of HT_.out (by kernel_rfl)) (by decide) (fun K hK => ?_)
                   refine box_step ?hg (N := 10) ?hd (cs := #[.int .i64 0, .slice none 0 0, .slice none 0 0]) (t := 26) ?hr ?_; (case hd => rfl); (case hg => rfl); (case hr => first | (go_simp; done) | (go_simp; rfl))
                   intro gb460 hg w54 hbox hb
                   have n0_ := Aside0.mk (Kd.R_below (by (with_reducible repeat (first | apply Kd.R_alloc | apply Kd.R_drewN | apply Kd.R_drew)); exact HO444.out) hb)
                   have n1_ := Aside0.mk (Kd.R_below (by (with_reducible repeat (first | apply Kd.R_alloc | apply Kd.R_drewN | apply Kd.R_drew)); exact HO447.out) hb)
                   have n2_ := Aside0.mk (Kd.R_below (by (with_reducible repeat (first | apply Kd.R_alloc | apply Kd.R_drewN | apply Kd.R_drew)); exact HO454.out) hb)
                   have n3_ := Aside0.mk (Kd.R_below (by (with_reducible repeat (first | apply Kd.R_alloc | apply Kd.R_drewN | apply Kd.R_drew)); exact HO457.out) hb)
                   have n4_ := Aside0.mk (blk_below (g := gb435) (o := .cells #[.int .i64 a0_0, .slice A0_1 l0_1.length c0_1, .slice A0_2 l0_2.length c0_2] 26 (0, 0)) (by (with_reducible repeat (first | refine blk_drewN ?_ _ | refine blk_drew ?_ | refine blk_alloc ?_ _)); exact BK435.out) hb)
                   have n5_ := Aside0.mk (blk_below (g := gb450) (o := .cells #[.int .i64 t441, .slice Ao49 t442.length co49, .slice Ao50 t445.length co50] 26 (0, 0)) (by (with_reducible repeat (first | refine blk_drewN ?_ _ | refine blk_drew ?_ | refine blk_alloc ?_ _)); exact BK450.out) hb)
                   have n6_ := Aside0.mk (below_step (by repeat (first | (with_reducible first | exact HB.out | apply below_alloc | apply pw_below_drewN | apply below_drew1 | refine below_set ?_ GE435.out | refine below_set ?_ GE450.out) | exact HB.out)) hb)
                   have n7_ := Aside0.mk (hbox)
                   have n8_ := Aside0.mk ((by rw [hg]; exact (below_size (by repeat (first | (with_reducible first | exact HB.out | apply below_alloc | apply pw_below_drewN | apply below_drew1 | refine below_set ?_ GE435.out | refine below_set ?_ GE450.out) | exact HB.out))) : w.heap.size ≤ gb460))
                   have n9_ := Aside0.mk ((by rw [hg]; exact (below_size (by repeat (first | (with_reducible first | exact HB.out | apply below_alloc | apply pw_below_drewN | apply below_drew1 | refine below_set ?_ GE435.out | refine below_set ?_ GE450.out) | exact HB.out))) : w.heap.size ≤ gb460))
                   have n10_ := Aside0.mk ((by rw [hg]; exact Nat.ne_of_lt (blk_lt (g := gb435) (o := .cells #[.int .i64 a0_0, .slice A0_1 l0_1.length c0_1, .slice A0_2 l0_2.length c0_2] 26 (0, 0)) (by (with_reducible repeat (first | refine blk_drewN ?_ _ | refine blk_drew ?_ | refine blk_alloc ?_ _)); exact BK435.out)) : gb435 ≠ gb460))
                   have n11_ := Aside0.mk ((by rw [hg]; exact Nat.ne_of_gt (blk_lt (g := gb435) (o := .cells #[.int .i64 a0_0, .slice A0_1 l0_1.length c0_1, .slice A0_2 l0_2.length c0_2] 26 (0, 0)) (by (with_reducible repeat (first | refine blk_drewN ?_ _ | refine blk_drew ?_ | refine blk_alloc ?_ _)); exact BK435.out)) : gb460 ≠ gb435))
                   have n12_ := Aside0.mk ((by rw [hg]; exact Nat.ne_of_lt (blk_lt (g := gb450) (o := .cells #[.int .i64 t441, .slice Ao49 t442.length co49, .slice Ao50 t445.length co50] 26 (0, 0)) (by (with_reducible repeat (first | refine blk_drewN ?_ _ | refine blk_drew ?_ | refine blk_alloc ?_ _)); exact BK450.out)) : gb450 ≠ gb460))
                   have n13_ := Aside0.mk ((by rw [hg]; exact Nat.ne_of_gt (blk_lt (g := gb450) (o := .cells #[.int .i64 t441, .slice Ao49 t442.length co49, .slice Ao50 t445.length co50] 26 (0, 0)) (by (with_reducible repeat (first | refine blk_drewN ?_ _ | refine blk_drew ?_ | refine blk_alloc ?_ _)); exact BK450.out)) : gb460 ≠ gb450))
                   clear HO444
                   clear HO447
                   clear HO454
                   clear HO457
                   clear BK435
                   clear BK450
                   clear HB
                   have HO444 := n0_
                   have HO447 := n1_
                   have HO454 := n2_
                   have HO457 := n3_
                   have BK435 := n4_
                   have BK450 := n5_
                   have HB := n6_
                   have BK460 := n7_
                   have GW460 := n8_
                   have GE460 := n9_
                   have NB435_460 := n10_
                   have NB460_435 := n11_
                   have NB450_460 := n12_
                   have NB460_450 := n13_
                   clear n0_ n1_ n2_ n3_ n4_ n5_ n6_ n7_ n8_ n9_ n10_ n11_ n12_ n13_
                   clear hb hbox hg
                   refine hK.out _ _ trivial (fun hHeld => ?_)
                   clear hK K
                   refine norm_ (a' := ?_) ?_ ?_
                   rotate_left
                   ·show Act.put _ (some 10) _ = _
                    simp only [Act.put, List.setIfInBounds_toArray, List.set_cons_zero, List.set_cons_succ, i64_w, i32_w]
                    rfl
                   exact norm_ (by simp only [putAll, Act.put, List.setIfInBounds_toArray, List.set_cons_zero, List.set_cons_succ]) (hCont (v453, v456, gb460) _ ⟨(by (with_reducible repeat (first | apply Kd.R_alloc | apply Kd.R_drewN | apply Kd.R_drew)); exact Kd.R_mono HO444.out (fun _ hk => hk.2)), (by (with_reducible repeat (first | apply Kd.R_alloc | apply Kd.R_drewN | apply Kd.R_drew)); exact Kd.R_mono HO447.out (fun _ hk => hk.2)), (by (with_reducible repeat (first | apply Kd.R_alloc | apply Kd.R_drewN | apply Kd.R_drew)); exact Kd.R_mono HO454.out (fun _ hk => hk.2)), (by (with_reducible repeat (first | apply Kd.R_alloc | apply Kd.R_drewN | apply Kd.R_drew)); exact Kd.R_mono HO457.out (fun _ hk => hk.2)), (by (with_reducible repeat (first | refine blk_drewN ?_ _ | refine blk_drew ?_ | refine blk_alloc ?_ _)); exact BK435.out), (by (with_reducible repeat (first | refine blk_drewN ?_ _ | refine blk_drew ?_ | refine blk_alloc ?_ _)); exact BK450.out), (by (with_reducible repeat (first | refine blk_drewN ?_ _ | refine blk_drew ?_ | refine blk_alloc ?_ _)); exact BK460.out), GW460.out, GE460.out, NB435_460.out, NB460_435.out, NB450_460.out, NB460_450.out, (by repeat (first | (with_reducible first | exact HB.out | apply below_alloc | apply pw_below_drewN | apply below_drew1 | refine below_set ?_ GE435.out | refine below_set ?_ GE450.out | refine below_set ?_ GE460.out) | exact HB.out))⟩)
                  ·skip
                   refine box_step ?hg (N := 10) ?hd (cs := #[.int .i64 0, .slice none 0 0, .slice none 0 0]) (t := 26) ?hr ?_; (case hd => rfl); (case hg => rfl); (case hr => first | (go_simp; done) | (go_simp; rfl))
                   intro gb460 hg w53 hbox hb
                   have n0_ := Aside0.mk (Kd.R_below (by (with_reducible repeat (first | apply Kd.R_alloc | apply Kd.R_drewN | apply Kd.R_drew)); exact HO444.out) hb)
                   have n1_ := Aside0.mk (Kd.R_below (by (with_reducible repeat (first | apply Kd.R_alloc | apply Kd.R_drewN | apply Kd.R_drew)); exact HO447.out) hb)
                   have n2_ := Aside0.mk (blk_below (g := gb435) (o := .cells #[.int .i64 a0_0, .slice A0_1 l0_1.length c0_1, .slice A0_2 l0_2.length c0_2] 26 (0, 0)) (by (with_reducible repeat (first | refine blk_drewN ?_ _ | refine blk_drew ?_ | refine blk_alloc ?_ _)); exact BK435.out) hb)
                   have n3_ := Aside0.mk (blk_below (g := gb450) (o := .cells #[.int .i64 t441, .slice Ao49 t442.length co49, .slice Ao50 t445.length co50] 26 (0, 0)) (by (with_reducible repeat (first | refine blk_drewN ?_ _ | refine blk_drew ?_ | refine blk_alloc ?_ _)); exact BK450.out) hb)
                   have n4_ := Aside0.mk (below_step (by repeat (first | (with_reducible first | exact HB.out | apply below_alloc | apply pw_below_drewN | apply below_drew1 | refine below_set ?_ GE435.out | refine below_set ?_ GE450.out) | exact HB.out)) hb)
                   have n5_ := Aside0.mk (hbox)
                   have n6_ := Aside0.mk ((by rw [hg]; exact (below_size (by repeat (first | (with_reducible first | exact HB.out | apply below_alloc | apply pw_below_drewN | apply below_drew1 | refine below_set ?_ GE435.out | refine below_set ?_ GE450.out) | exact HB.out))) : w.heap.size ≤ gb460))
                   have n7_ := Aside0.mk ((by rw [hg]; exact (below_size (by repeat (first | (with_reducible first | exact HB.out | apply below_alloc | apply pw_below_drewN | apply below_drew1 | refine below_set ?_ GE435.out | refine below_set ?_ GE450.out) | exact HB.out))) : w.heap.size ≤ gb460))
                   have n8_ := Aside0.mk ((by rw [hg]; exact Nat.ne_of_lt (blk_lt (g := gb435) (o := .cells #[.int .i64 a0_0, .slice A0_1 l0_1.length c0_1, .slice A0_2 l0_2.length c0_2] 26 (0, 0)) (by (with_reducible repeat (first | refine blk_drewN ?_ _ | refine blk_drew ?_ | refine blk_alloc ?_ _)); exact BK435.out)) : gb435 ≠ gb460))
                   have n9_ := Aside0.mk ((by rw [hg]; exact Nat.ne_of_gt (blk_lt (g := gb435) (o := .cells #[.int .i64 a0_0, .slice A0_1 l0_1.length c0_1, .slice A0_2 l0_2.length c0_2] 26 (0, 0)) (by (with_reducible repeat (first | refine blk_drewN ?_ _ | refine blk_drew ?_ | refine blk_alloc ?_ _)); exact BK435.out)) : gb460 ≠ gb435))
                   have n10_ := Aside0.mk ((by rw [hg]; exact Nat.ne_of_lt (blk_lt (g := gb450) (o := .cells #[.int .i64 t441, .slice Ao49 t442.length co49, .slice Ao50 t445.length co50] 26 (0, 0)) (by (with_reducible repeat (first | refine blk_drewN ?_ _ | refine blk_drew ?_ | refine blk_alloc ?_ _)); exact BK450.out)) : gb450 ≠ gb460))
                   have n11_ := Aside0.mk ((by rw [hg]; exact Nat.ne_of_gt (blk_lt (g := gb450) (o := .cells #[.int .i64 t441, .slice Ao49 t442.length co49, .slice Ao50 t445.length co50] 26 (0, 0)) (by (with_reducible repeat (first | refine blk_drewN ?_ _ | refine blk_drew ?_ | refine blk_alloc ?_ _)); exact BK450.out)) : gb460 ≠ gb450))
                   clear HO444
                   clear HO447
                   clear BK435
                   clear BK450
                   clear HB
                   have HO444 := n0_
                   have HO447 := n1_
                   have BK435 := n2_
                   have BK450 := n3_
                   have HB := n4_
                   have BK460 := n5_
                   have GW460 := n6_
                   have GE460 := n7_
                   have NB435_460 := n8_
                   have NB460_435 := n9_
                   have NB450_460 := n10_
                   have NB460_450 := n11_
                   clear n0_ n1_ n2_ n3_ n4_ n5_ n6_ n7_ n8_ n9_ n10_ n11_
                   clear hb hbox hg
                   refine hK.out _ _ trivial (fun hHeld => ?_)
                   clear hK K
                   refine norm_ (a' := ?_) ?_ ?_
                   rotate_left
                   ·show Act.put _ (some 10) _ = _
                    simp only [Act.put, List.setIfInBounds_toArray, List.set_cons_zero, List.set_cons_succ, i64_w, i32_w]
                    rfl
                   refine one_ (i := 9) (N := some 54) #[true, true, true, true, true, true, true, true, true, true, false, false, false, false, true, false, false, false] rfl rfl (one_of HT_.out (by kernel_rfl)) (by decide) (fun K hK => ?_)
                   refine goes_ Tryd.func9 (by kernel_rfl) rfl #[.string (((t440.extract 0 ((ji24) : Int).toNat) ++ (⟨#[33]⟩ : ByteArray)) ++ (t440.extract ((ji31) : Int).toNat t440.size))] (by rfl) rfl rfl (by (try simp only [List.map_toArray, List.map_cons, List.map_nil]); first | done | (simp only [hji24, hji31]; rfl) | rfl | (simp only [List.length_drop, List.length_take]; rfl)) ?_
                   with_reducible refine (cattext_Parse.calls (hT := Tabs.below HTAB.out (by repeat (first | (with_reducible first | exact HB.out | apply below_alloc | apply pw_below_drewN | apply below_drew1 | refine below_set ?_ (by assumption) | refine below_set ?_ GE435.out | refine below_set ?_ GE450.out | refine below_set ?_ GE460.out | refine below_set ?_ GE470.out) | exact HB.out))) (((t440.extract 0 ((ji24) : Int).toNat) ++ (⟨#[33]⟩ : ByteArray)) ++ (t440.extract ((ji31) : Int).toNat t440.size)) t451 t452 t455 t458 t459 _ A35.out).mono ?_
                   rintro e w54 ⟨v453, v456, rfl, ho0, ho1, hb⟩
                   refine ⟨_, rfl, ?_⟩
                   have n0_ := Aside0.mk (Kd.R_elder' (by (with_reducible repeat (first | apply Kd.R_alloc | apply Kd.R_drewN | apply Kd.R_drew)); exact HO444.out) (Kd.R_base ho0) hb)
                   have n1_ := Aside0.mk (Kd.R_elder' (by (with_reducible repeat (first | apply Kd.R_alloc | apply Kd.R_drewN | apply Kd.R_drew)); exact HO447.out) (Kd.R_base ho1) hb)
                   have n2_ := Aside0.mk (Kd.R_lower (Kd.R_new' ho0 (Kd.R_lt (by (with_reducible repeat (first | apply Kd.R_alloc | apply Kd.R_drewN | apply Kd.R_drew)); exact HO444.out))) (below_size (by repeat (first | (with_reducible first | exact HB.out | apply below_alloc | apply pw_below_drewN | apply below_drew1 | refine below_set ?_ GE435.out | refine below_set ?_ GE450.out | refine below_set ?_ GE460.out) | exact HB.out))))
                   have n3_ := Aside0.mk (Kd.R_lower (Kd.R_new' ho1 (Kd.R_lt (by (with_reducible repeat (first | apply Kd.R_alloc | apply Kd.R_drewN | apply Kd.R_drew)); exact HO447.out))) (below_size (by repeat (first | (with_reducible first | exact HB.out | apply below_alloc | apply pw_below_drewN | apply below_drew1 | refine below_set ?_ GE435.out | refine below_set ?_ GE450.out | refine below_set ?_ GE460.out) | exact HB.out))))
                   have n4_ := Aside0.mk (blk_below (g := gb435) (o := .cells #[.int .i64 a0_0, .slice A0_1 l0_1.length c0_1, .slice A0_2 l0_2.length c0_2] 26 (0, 0)) (by (with_reducible repeat (first | refine blk_drewN ?_ _ | refine blk_drew ?_ | refine blk_alloc ?_ _)); exact BK435.out) hb)
                   have n5_ := Aside0.mk (blk_below (g := gb450) (o := .cells #[.int .i64 t441, .slice Ao49 t442.length co49, .slice Ao50 t445.length co50] 26 (0, 0)) (by (with_reducible repeat (first | refine blk_drewN ?_ _ | refine blk_drew ?_ | refine blk_alloc ?_ _)); exact BK450.out) hb)
                   have n6_ := Aside0.mk (blk_below (g := gb460) (o := .cells #[.int .i64 0, .slice none 0 0, .slice none 0 0] 26 (0, 0)) (by (with_reducible repeat (first | refine blk_drewN ?_ _ | refine blk_drew ?_ | refine blk_alloc ?_ _)); exact BK460.out) hb)
                   have n7_ := Aside0.mk (below_step (by repeat (first | (with_reducible first | exact HB.out | apply below_alloc | apply pw_below_drewN | apply below_drew1 | refine below_set ?_ GE435.out | refine below_set ?_ GE450.out | refine below_set ?_ GE460.out) | exact HB.out)) hb)
                   clear HO444
                   clear HO447
                   clear BK435
                   clear BK450
                   clear BK460
                   clear HB
                   have HO444 := n0_
                   have HO447 := n1_
                   have HO454 := n2_
                   have HO457 := n3_
                   have BK435 := n4_
                   have BK450 := n5_
                   have BK460 := n6_
                   have HB := n7_
                   clear n0_ n1_ n2_ n3_ n4_ n5_ n6_ n7_
                   (try clear hb)
                   (try clear hb2)
                   (try clear hk)
                   (try clear hi)
                   (try clear ho0)
                   (try clear ho1)
                   refine hK.out _ _ trivial (fun hHeld => ?_)
                   clear hK K
                   refine norm_ (a' := ?_) ?_ ?_
                   rotate_left
                   ·show Act.put _ (some 54) _ = _
                    simp only [Act.put, List.setIfInBounds_toArray, List.set_cons_zero, List.set_cons_succ, i64_w, i32_w]
                    rfl
                   refine pure_ (i := 10) (N := some 44) (v := ?_) (a' := ?_) #[true, true, true, true, true, true, true, true, true, true, true, false, false, false, true, false, false, false] rfl rfl (any_of HT_.out (by kernel_rfl)) (fun _ _ _ h => h) (Or.inl ⟨by rfl, ?_⟩) ?_ ?_
                   rotate_left
                   ·intro w'
                    go_simp
                    with_reducible rfl
                   rotate_left
                   ·simp only [Act.put, List.setIfInBounds_toArray, List.set_cons_zero, List.set_cons_succ, i64_w, i32_w]
                    rfl
                   refine pure_ (i := 11) (N := some 55) (v := ?_) (a' := ?_) #[true, true, true, true, true, true, true, true, true, true, true, true, false, false, true, false, false, false] rfl rfl (any_of HT_.out (by kernel_rfl)) (fun _ _ _ h => h) (Or.inl ⟨by rfl, ?_⟩) ?_ ?_
                   rotate_left
                   ·intro w'
                    go_simp
                    with_reducible rfl
                   rotate_left
                   ·simp only [Act.put, List.setIfInBounds_toArray, List.set_cons_zero, List.set_cons_succ, i64_w, i32_w]
                    rfl
                   refine pure_ (i := 12) (N := some 56) (v := ?_) (a' := ?_) #[true, true, true, true, true, true, true, true, true, true, true, true, true, false, true, false, false, false] rfl rfl (any_of HT_.out (by kernel_rfl)) (fun _ _ _ h => h) (Or.inl ⟨by rfl, ?_⟩) ?_ ?_
                   rotate_left
                   ·intro w'
                    go_simp
                    with_reducible rfl
                   rotate_left
                   ·simp only [Act.put, List.setIfInBounds_toArray, List.set_cons_zero, List.set_cons_succ, i64_w, i32_w]
                    rfl
                   refine pure_ (i := 13) (N := some 57) (v := ?_) (a' := ?_) #[true, true, true, true, true, true, true, true, true, true, true, true, true, true, true, false, false, false] rfl rfl (any_of HT_.out (by kernel_rfl)) (fun _ _ _ h => h) (Or.inl ⟨by rfl, ?_⟩) ?_ ?_
                   rotate_left
                   ·intro w'
                    go_simp
                    with_reducible rfl
                   rotate_left
                   ·simp only [Act.put, List.setIfInBounds_toArray, List.set_cons_zero, List.set_cons_succ, i64_w, i32_w]
                    rfl
                   exact norm_ (by simp only [putAll, Act.put, List.setIfInBounds_toArray, List.set_cons_zero, List.set_cons_succ]) (hCont (v453, v456, gb460) _ ⟨(by (with_reducible repeat (first | apply Kd.R_alloc | apply Kd.R_drewN | apply Kd.R_drew)); exact Kd.R_mono HO444.out (fun _ hk => hk.2)), (by (with_reducible repeat (first | apply Kd.R_alloc | apply Kd.R_drewN | apply Kd.R_drew)); exact Kd.R_mono HO447.out (fun _ hk => hk.2)), (by (with_reducible repeat (first | apply Kd.R_alloc | apply Kd.R_drewN | apply Kd.R_drew)); exact Kd.R_mono HO454.out (fun _ hk => hk.2)), (by (with_reducible repeat (first | apply Kd.R_alloc | apply Kd.R_drewN | apply Kd.R_drew)); exact Kd.R_mono HO457.out (fun _ hk => hk.2)), (by (with_reducible repeat (first | refine blk_drewN ?_ _ | refine blk_drew ?_ | refine blk_alloc ?_ _)); exact BK435.out), (by (with_reducible repeat (first | refine blk_drewN ?_ _ | refine blk_drew ?_ | refine blk_alloc ?_ _)); exact BK450.out), (by (with_reducible repeat (first | refine blk_drewN ?_ _ | refine blk_drew ?_ | refine blk_alloc ?_ _)); exact BK460.out), GW460.out, GE460.out, NB435_460.out, NB460_435.out, NB450_460.out, NB460_450.out, (by repeat (first | (with_reducible first | exact HB.out | apply below_alloc | apply pw_below_drewN | apply below_drew1 | refine below_set ?_ GE435.out | refine below_set ?_ GE450.out | refine below_set ?_ GE460.out) | exact HB.out))⟩)
                 rintro ⟨v453, v456, gb460⟩ w55 ⟨h0_, h1_, h2_, h3_, h4_, h5_, h6_, h7_, h8_, h9_, h10_, h11_, h12_, h13_⟩
                 have n0_ : Aside0 (Kd.R k41 41 w55 w.heap.size (fun k_ => some k_ ≠ (v453 : Value).ownBlock) (.slice Ao49 t442.length co49) t442) := ⟨h0_⟩
                 have n1_ : Aside0 (Kd.R k43 43 w55 w.heap.size (fun k_ => some k_ ≠ (v456 : Value).ownBlock) (.slice Ao50 t445.length co50) t445) := ⟨h1_⟩
                 have n2_ : Aside0 (Kd.R k41 41 w55 w.heap.size (fun k_ => some k_ ≠ (.slice Ao49 t442.length co49 : Value).ownBlock) v453 t452) := ⟨h2_⟩
                 have n3_ : Aside0 (Kd.R k43 43 w55 w.heap.size (fun k_ => some k_ ≠ (.slice Ao50 t445.length co50 : Value).ownBlock) v456 t455) := ⟨h3_⟩
                 have n4_ : Aside0 (w55.heap[gb435]? = some (.cells #[.int .i64 a0_0, .slice A0_1 l0_1.length c0_1, .slice A0_2 l0_2.length c0_2] 26 (0, 0))) := ⟨h4_⟩
                 have n5_ : Aside0 (w55.heap[gb450]? = some (.cells #[.int .i64 t441, .slice Ao49 t442.length co49, .slice Ao50 t445.length co50] 26 (0, 0))) := ⟨h5_⟩
                 have n6_ : Aside0 (w55.heap[gb460]? = some (.cells #[.int .i64 0, .slice none 0 0, .slice none 0 0] 26 (0, 0))) := ⟨h6_⟩
                 have n7_ : Aside0 (w.heap.size ≤ gb460) := ⟨h7_⟩
                 have n8_ : Aside0 (w.heap.size ≤ gb460) := ⟨h8_⟩
                 have n9_ : Aside0 (gb435 ≠ gb460) := ⟨h9_⟩
                 have n10_ : Aside0 (gb460 ≠ gb435) := ⟨h10_⟩
                 have n11_ : Aside0 (gb450 ≠ gb460) := ⟨h11_⟩
                 have n12_ : Aside0 (gb460 ≠ gb450) := ⟨h12_⟩
                 have n13_ : Aside0 (Below w.heap.size w w55) := ⟨h13_⟩
                 clear HO444
                 clear HO447
                 clear BK435
                 clear BK450
                 clear HB
                 clear h0_ h1_ h2_ h3_ h4_ h5_ h6_ h7_ h8_ h9_ h10_ h11_ h12_ h13_
                 have HO444 := n0_
                 have HO447 := n1_
                 have HO454 := n2_
                 have HO457 := n3_
                 have BK435 := n4_
                 have BK450 := n5_
                 have BK460 := n6_
                 have GW460 := n7_
                 have GE460 := n8_
                 have NB435_460 := n9_
                 have NB460_435 := n10_
                 have NB450_460 := n11_
                 have NB460_450 := n12_
                 have HB := n13_
                 clear n0_ n1_ n2_ n3_ n4_ n5_ n6_ n7_ n8_ n9_ n10_ n11_ n12_ n13_
                 have hHeld := trivial
                 obtain ⟨Ao57, co57, eo57⟩ := Kd.R_slice HO454.out
                 (first | subst eo57 | (injection eo57 with f1_ f2_ f3_; have f4_ := f1_.symm; have f5_ := f3_.symm; clear f1_ f2_ f3_; subst f4_; subst f5_))
                 obtain ⟨Ao59, co59, eo59⟩ := Kd.R_slice HO457.out
                 (first | subst eo59 | (injection eo59 with f1_ f2_ f3_; have f4_ := f1_.symm; have f5_ := f3_.symm; clear f1_ f2_ f3_; subst f4_; subst f5_))
                 refine norm_ (a' := ?_) ?_ ?_
                 rotate_left
                 ·simp only [putAll, Act.put, List.setIfInBounds_toArray, List.set_cons_zero, List.set_cons_succ]
                  rfl
                 refine one_ (i := 15) (N := none) #[true, true, true, true, true, true, true, true, true, true, true, true, true, true, true, true, false, false] rfl rfl (one_of HT_.out (by kernel_rfl)) (by decide) (fun K hK => ?_)
                 have hs56 : w55.cell? ⟨gb460, 0, none⟩ = some (.int .i64 0) := (blk_cell BK460.out 0).trans rfl
                 have hfs56 := blk_frozen BK460.out 0
                 have hns56_0 := NB435_460.out
                 have hns56_1 := NB450_460.out
                 have hms56_0 := NB460_435.out
                 have hms56_1 := NB460_450.out
                 have hs58 : w55.cell? ⟨gb460, 1, none⟩ = some (.slice none 0 0) := (blk_cell BK460.out 1).trans rfl
                 have hfs58 := blk_frozen BK460.out 1
                 have hns58_0 := NB435_460.out
                 have hns58_1 := NB450_460.out
                 have hms58_0 := NB460_435.out
                 have hms58_1 := NB460_450.out
                 have hs60 : w55.cell? ⟨gb460, 2, none⟩ = some (.slice none 0 0) := (blk_cell BK460.out 2).trans rfl
                 have hfs60 := blk_frozen BK460.out 2
                 have hns60_0 := NB435_460.out
                 have hns60_1 := NB450_460.out
                 have hms60_0 := NB460_435.out
                 have hms60_1 := NB460_450.out
                 refine skip_ (w1 := ?_) (by rfl) rfl ?_ ?_
                 rotate_left
                 ·go_simp
                  rfl
                 refine hK.out _ _ trivial (fun hHeld => ?_)
                 clear hK K
                 refine pure_ (i := 16) (N := some 11) (v := ?_) (a' := ?_) #[true, true, true, true, true, true, true, true, true, true, true, true, true, true, true, true, true, false] rfl rfl (any_of HT_.out (by kernel_rfl)) (fun _ _ _ h => h) (Or.inl ⟨by rfl, ?_⟩) ?_ ?_
                 rotate_left
                 ·intro w'
                  go_simp
                  with_reducible rfl
                 rotate_left
                 ·simp only [Act.put, List.setIfInBounds_toArray, List.set_cons_zero, List.set_cons_succ, i64_w, i32_w]
                  rfl
                 refine pure_ (i := 17) (N := some 12) (v := ?_) (a' := ?_) #[true, true, true, true, true, true, true, true, true, true, true, true, true, true, true, true, true, true] rfl rfl (any_of HT_.out (by kernel_rfl)) (fun _ _ _ h => h) (Or.inl ⟨by rfl, ?_⟩) ?_ ?_
                 rotate_left
                 ·intro w'
                  go_simp
                  with_reducible rfl
                 rotate_left
                 ·simp only [Act.put, List.setIfInBounds_toArray, List.set_cons_zero, List.set_cons_succ, i64_w, i32_w]
                  rfl
                 refine done_ (done_of HT_.out (by kernel_rfl)) ?_
                 try go_wp2_with (first | ((with_reducible refine gate_callee (f := 9) rfl ?_); refine goesL_ (some 61) rfl rfl Tryd.func9 (by kernel_rfl) rfl #[.string (t440 ++ (⟨#[33]⟩ : ByteArray))] rfl (by (try simp only [List.map_toArray, List.map_cons, List.map_nil]); first | done | rfl | (simp only [List.length_drop, List.length_take]; rfl)) ?_; (with_reducible refine (cattext_Parse.calls (hT := Tabs.below HTAB.out (by repeat (first | (with_reducible first | exact HB.out | apply below_alloc | apply pw_below_drewN | apply below_drew1 | refine below_set ?_ (by assumption) | refine below_set ?_ GE435.out | refine below_set ?_ GE450.out | refine below_set ?_ GE460.out | refine below_set ?_ GE470.out) | exact HB.out))) (t440 ++ (⟨#[33]⟩ : ByteArray)) t461 t462 t465 t468 t469 _ A37.out).mono ?_); rintro e w61 ⟨v463, v466, rfl, ho0, ho1, hb⟩; refine ⟨_, rfl, ?_⟩; have n0_ := Aside0.mk (Kd.R_elder' (by (with_reducible repeat (first | apply Kd.R_alloc | apply Kd.R_drewN | apply Kd.R_drew)); exact (Kd.R_mono (Kd.R_far (p := ⟨gb460, 2, none⟩) (Kd.R_far (p := ⟨gb460, 1, none⟩) (Kd.R_far (p := ⟨gb460, 0, none⟩) (Kd.R_types HO444.out BK460.out (by decide)) (fun _ hk => hk.2) (.int .i64 t451)) (fun _ hk => hk.2) (.slice Ao57 t452.length co57)) (fun _ hk => hk.2) (.slice Ao59 t455.length co59)) (fun _ h_ => h_.1))) (Kd.R_base ho0) hb); have n1_ := Aside0.mk (Kd.R_elder' (by (with_reducible repeat (first | apply Kd.R_alloc | apply Kd.R_drewN | apply Kd.R_drew)); exact (Kd.R_mono (Kd.R_far (p := ⟨gb460, 2, none⟩) (Kd.R_far (p := ⟨gb460, 1, none⟩) (Kd.R_far (p := ⟨gb460, 0, none⟩) (Kd.R_types HO447.out BK460.out (by decide)) (fun _ hk => hk.2) (.int .i64 t451)) (fun _ hk => hk.2) (.slice Ao57 t452.length co57)) (fun _ hk => hk.2) (.slice Ao59 t455.length co59)) (fun _ h_ => h_.1))) (Kd.R_base ho1) hb); have n2_ := Aside0.mk (Kd.R_elder' (by (with_reducible repeat (first | apply Kd.R_alloc | apply Kd.R_drewN | apply Kd.R_drew)); exact (Kd.R_mono (Kd.R_far (p := ⟨gb460, 2, none⟩) (Kd.R_far (p := ⟨gb460, 1, none⟩) (Kd.R_far (p := ⟨gb460, 0, none⟩) (Kd.R_types HO454.out BK460.out (by decide)) (fun _ hk => hk.2) (.int .i64 t451)) (fun _ hk => hk.2) (.slice Ao57 t452.length co57)) (fun _ hk => hk.2) (.slice Ao59 t455.length co59)) (fun _ h_ => h_.1))) (Kd.R_base ho0) hb); have n3_ := Aside0.mk (Kd.R_elder' (by (with_reducible repeat (first | apply Kd.R_alloc | apply Kd.R_drewN | apply Kd.R_drew)); exact (Kd.R_mono (Kd.R_far (p := ⟨gb460, 2, none⟩) (Kd.R_far (p := ⟨gb460, 1, none⟩) (Kd.R_far (p := ⟨gb460, 0, none⟩) (Kd.R_types HO457.out BK460.out (by decide)) (fun _ hk => hk.2) (.int .i64 t451)) (fun _ hk => hk.2) (.slice Ao57 t452.length co57)) (fun _ hk => hk.2) (.slice Ao59 t455.length co59)) (fun _ h_ => h_.1))) (Kd.R_base ho1) hb); have n4_ := Aside0.mk (Kd.R_lower (Kd.R_new' (Kd.R_new' ho0 (Kd.R_lt (by (with_reducible repeat (first | apply Kd.R_alloc | apply Kd.R_drewN | apply Kd.R_drew)); exact (Kd.R_mono (Kd.R_far (p := ⟨gb460, 2, none⟩) (Kd.R_far (p := ⟨gb460, 1, none⟩) (Kd.R_far (p := ⟨gb460, 0, none⟩) (Kd.R_types HO444.out BK460.out (by decide)) (fun _ hk => hk.2) (.int .i64 t451)) (fun _ hk => hk.2) (.slice Ao57 t452.length co57)) (fun _ hk => hk.2) (.slice Ao59 t455.length co59)) (fun _ h_ => h_.1))))) (Kd.R_lt (by (with_reducible repeat (first | apply Kd.R_alloc | apply Kd.R_drewN | apply Kd.R_drew)); exact (Kd.R_mono (Kd.R_far (p := ⟨gb460, 2, none⟩) (Kd.R_far (p := ⟨gb460, 1, none⟩) (Kd.R_far (p := ⟨gb460, 0, none⟩) (Kd.R_types HO454.out BK460.out (by decide)) (fun _ hk => hk.2) (.int .i64 t451)) (fun _ hk => hk.2) (.slice Ao57 t452.length co57)) (fun _ hk => hk.2) (.slice Ao59 t455.length co59)) (fun _ h_ => h_.1))))) (below_size (by repeat (first | (with_reducible first | exact HB.out | apply below_alloc | apply pw_below_drewN | apply below_drew1 | refine below_set ?_ GE435.out | refine below_set ?_ GE450.out | refine below_set ?_ GE460.out) | exact HB.out)))); have n5_ := Aside0.mk (Kd.R_lower (Kd.R_new' (Kd.R_new' ho1 (Kd.R_lt (by (with_reducible repeat (first | apply Kd.R_alloc | apply Kd.R_drewN | apply Kd.R_drew)); exact (Kd.R_mono (Kd.R_far (p := ⟨gb460, 2, none⟩) (Kd.R_far (p := ⟨gb460, 1, none⟩) (Kd.R_far (p := ⟨gb460, 0, none⟩) (Kd.R_types HO447.out BK460.out (by decide)) (fun _ hk => hk.2) (.int .i64 t451)) (fun _ hk => hk.2) (.slice Ao57 t452.length co57)) (fun _ hk => hk.2) (.slice Ao59 t455.length co59)) (fun _ h_ => h_.1))))) (Kd.R_lt (by (with_reducible repeat (first | apply Kd.R_alloc | apply Kd.R_drewN | apply Kd.R_drew)); exact (Kd.R_mono (Kd.R_far (p := ⟨gb460, 2, none⟩) (Kd.R_far (p := ⟨gb460, 1, none⟩) (Kd.R_far (p := ⟨gb460, 0, none⟩) (Kd.R_types HO457.out BK460.out (by decide)) (fun _ hk => hk.2) (.int .i64 t451)) (fun _ hk => hk.2) (.slice Ao57 t452.length co57)) (fun _ hk => hk.2) (.slice Ao59 t455.length co59)) (fun _ h_ => h_.1))))) (below_size (by repeat (first | (with_reducible first | exact HB.out | apply below_alloc | apply pw_below_drewN | apply below_drew1 | refine below_set ?_ GE435.out | refine below_set ?_ GE450.out | refine below_set ?_ GE460.out) | exact HB.out)))); have n6_ := Aside0.mk (blk_below (g := gb435) (o := .cells #[.int .i64 a0_0, .slice A0_1 l0_1.length c0_1, .slice A0_2 l0_2.length c0_2] 26 (0, 0)) (by (with_reducible repeat (first | refine blk_drewN ?_ _ | refine blk_drew ?_ | refine blk_alloc ?_ _)); refine blk_far ?_ NB435_460.out _; (with_reducible repeat (first | refine blk_drewN ?_ _ | refine blk_drew ?_ | refine blk_alloc ?_ _)); refine blk_far ?_ NB435_460.out _; (with_reducible repeat (first | refine blk_drewN ?_ _ | refine blk_drew ?_ | refine blk_alloc ?_ _)); refine blk_far ?_ NB435_460.out _; (with_reducible repeat (first | refine blk_drewN ?_ _ | refine blk_drew ?_ | refine blk_alloc ?_ _)); exact BK435.out) hb); have n7_ := Aside0.mk (blk_below (g := gb450) (o := .cells #[.int .i64 t441, .slice Ao49 t442.length co49, .slice Ao50 t445.length co50] 26 (0, 0)) (by (with_reducible repeat (first | refine blk_drewN ?_ _ | refine blk_drew ?_ | refine blk_alloc ?_ _)); refine blk_far ?_ NB450_460.out _; (with_reducible repeat (first | refine blk_drewN ?_ _ | refine blk_drew ?_ | refine blk_alloc ?_ _)); refine blk_far ?_ NB450_460.out _; (with_reducible repeat (first | refine blk_drewN ?_ _ | refine blk_drew ?_ | refine blk_alloc ?_ _)); refine blk_far ?_ NB450_460.out _; (with_reducible repeat (first | refine blk_drewN ?_ _ | refine blk_drew ?_ | refine blk_alloc ?_ _)); exact BK450.out) hb); have n8_ := Aside0.mk (blk_below (g := gb460) (o := .cells #[.int .i64 t451, .slice Ao57 t452.length co57, .slice Ao59 t455.length co59] 26 (0, 0)) (by (with_reducible repeat (first | refine blk_drewN ?_ _ | refine blk_drew ?_ | refine blk_alloc ?_ _)); refine blk_put (cs := #[.int .i64 t451, .slice Ao57 t452.length co57, .slice none 0 0]) ?_ 2 _ rfl; (with_reducible repeat (first | refine blk_drewN ?_ _ | refine blk_drew ?_ | refine blk_alloc ?_ _)); refine blk_put (cs := #[.int .i64 t451, .slice none 0 0, .slice none 0 0]) ?_ 1 _ rfl; (with_reducible repeat (first | refine blk_drewN ?_ _ | refine blk_drew ?_ | refine blk_alloc ?_ _)); refine blk_put (cs := #[.int .i64 0, .slice none 0 0, .slice none 0 0]) ?_ 0 _ rfl; (with_reducible repeat (first | refine blk_drewN ?_ _ | refine blk_drew ?_ | refine blk_alloc ?_ _)); exact BK460.out) hb); have n9_ := Aside0.mk (below_step (by repeat (first | (with_reducible first | exact HB.out | apply below_alloc | apply pw_below_drewN | apply below_drew1 | refine below_set ?_ GE435.out | refine below_set ?_ GE450.out | refine below_set ?_ GE460.out) | exact HB.out)) hb); clear HO444; clear HO447; clear HO454; clear HO457; clear BK435; clear BK450; clear BK460; clear HB; have HO444 := n0_; have HO447 := n1_; have HO454 := n2_; have HO457 := n3_; have HO464 := n4_; have HO467 := n5_; have BK435 := n6_; have BK450 := n7_; have BK460 := n8_; have HB := n9_; clear n0_ n1_ n2_ n3_ n4_ n5_ n6_ n7_ n8_ n9_; (try clear hb); (try clear hb2); (try clear hk); (try clear hi); (try clear ho0); (try clear ho1)) | ((with_reducible refine gate_dst (N := 13) rfl ?_); (try (refine gate_guard (by rfl) ?_; dsimp only)); refine box_event ?hg (N := 13) ?hd (cs := #[.int .i64 0, .slice none 0 0, .slice none 0 0]) (t := 26) ?hr ?_; (case hd => rfl); (case hg => rfl); (case hr => first | (go_simp; done) | (go_simp; rfl)); intro gb470 hg w62 hbox hb; have n0_ := Aside0.mk (Kd.R_below (by (with_reducible repeat (first | apply Kd.R_alloc | apply Kd.R_drewN | apply Kd.R_drew)); exact HO444.out) hb); have n1_ := Aside0.mk (Kd.R_below (by (with_reducible repeat (first | apply Kd.R_alloc | apply Kd.R_drewN | apply Kd.R_drew)); exact HO447.out) hb); have n2_ := Aside0.mk (Kd.R_below (by (with_reducible repeat (first | apply Kd.R_alloc | apply Kd.R_drewN | apply Kd.R_drew)); exact HO454.out) hb); have n3_ := Aside0.mk (Kd.R_below (by (with_reducible repeat (first | apply Kd.R_alloc | apply Kd.R_drewN | apply Kd.R_drew)); exact HO457.out) hb); have n4_ := Aside0.mk (Kd.R_below (by (with_reducible repeat (first | apply Kd.R_alloc | apply Kd.R_drewN | apply Kd.R_drew)); exact HO464.out) hb); have n5_ := Aside0.mk (Kd.R_below (by (with_reducible repeat (first | apply Kd.R_alloc | apply Kd.R_drewN | apply Kd.R_drew)); exact HO467.out) hb); have n6_ := Aside0.mk (blk_below (g := gb435) (o := .cells #[.int .i64 a0_0, .slice A0_1 l0_1.length c0_1, .slice A0_2 l0_2.length c0_2] 26 (0, 0)) (by (with_reducible repeat (first | refine blk_drewN ?_ _ | refine blk_drew ?_ | refine blk_alloc ?_ _)); exact BK435.out) hb); have n7_ := Aside0.mk (blk_below (g := gb450) (o := .cells #[.int .i64 t441, .slice Ao49 t442.length co49, .slice Ao50 t445.length co50] 26 (0, 0)) (by (with_reducible repeat (first | refine blk_drewN ?_ _ | refine blk_drew ?_ | refine blk_alloc ?_ _)); exact BK450.out) hb); have n8_ := Aside0.mk (blk_below (g := gb460) (o := .cells #[.int .i64 t451, .slice Ao57 t452.length co57, .slice Ao59 t455.length co59] 26 (0, 0)) (by (with_reducible repeat (first | refine blk_drewN ?_ _ | refine blk_drew ?_ | refine blk_alloc ?_ _)); exact BK460.out) hb); have n9_ := Aside0.mk (below_step (by repeat (first | (with_reducible first | exact HB.out | apply below_alloc | apply pw_below_drewN | apply below_drew1 | refine below_set ?_ GE435.out | refine below_set ?_ GE450.out | refine below_set ?_ GE460.out) | exact HB.out)) hb); have n10_ := Aside0.mk (hbox); have n11_ := Aside0.mk ((by rw [hg]; exact (below_size (by repeat (first | (with_reducible first | exact HB.out | apply below_alloc | apply pw_below_drewN | apply below_drew1 | refine below_set ?_ GE435.out | refine below_set ?_ GE450.out | refine below_set ?_ GE460.out) | exact HB.out))) : w.heap.size ≤ gb470)); have n12_ := Aside0.mk ((by rw [hg]; exact (below_size (by repeat (first | (with_reducible first | exact HB.out | apply below_alloc | apply pw_below_drewN | apply below_drew1 | refine below_set ?_ GE435.out | refine below_set ?_ GE450.out | refine below_set ?_ GE460.out) | exact HB.out))) : w.heap.size ≤ gb470)); have n13_ := Aside0.mk ((by rw [hg]; exact Nat.ne_of_lt (blk_lt (g := gb435) (o := .cells #[.int .i64 a0_0, .slice A0_1 l0_1.length c0_1, .slice A0_2 l0_2.length c0_2] 26 (0, 0)) (by (with_reducible repeat (first | refine blk_drewN ?_ _ | refine blk_drew ?_ | refine blk_alloc ?_ _)); exact BK435.out)) : gb435 ≠ gb470)); have n14_ := Aside0.mk ((by rw [hg]; exact Nat.ne_of_gt (blk_lt (g := gb435) (o := .cells #[.int .i64 a0_0, .slice A0_1 l0_1.length c0_1, .slice A0_2 l0_2.length c0_2] 26 (0, 0)) (by (with_reducible repeat (first | refine blk_drewN ?_ _ | refine blk_drew ?_ | refine blk_alloc ?_ _)); exact BK435.out)) : gb470 ≠ gb435)); have n15_ := Aside0.mk ((by rw [hg]; exact Nat.ne_of_lt (blk_lt (g := gb450) (o := .cells #[.int .i64 t441, .slice Ao49 t442.length co49, .slice Ao50 t445.length co50] 26 (0, 0)) (by (with_reducible repeat (first | refine blk_drewN ?_ _ | refine blk_drew ?_ | refine blk_alloc ?_ _)); exact BK450.out)) : gb450 ≠ gb470)); have n16_ := Aside0.mk ((by rw [hg]; exact Nat.ne_of_gt (blk_lt (g := gb450) (o := .cells #[.int .i64 t441, .slice Ao49 t442.length co49, .slice Ao50 t445.length co50] 26 (0, 0)) (by (with_reducible repeat (first | refine blk_drewN ?_ _ | refine blk_drew ?_ | refine blk_alloc ?_ _)); exact BK450.out)) : gb470 ≠ gb450)); have n17_ := Aside0.mk ((by rw [hg]; exact Nat.ne_of_lt (blk_lt (g := gb460) (o := .cells #[.int .i64 t451, .slice Ao57 t452.length co57, .slice Ao59 t455.length co59] 26 (0, 0)) (by (with_reducible repeat (first | refine blk_drewN ?_ _ | refine blk_drew ?_ | refine blk_alloc ?_ _)); exact BK460.out)) : gb460 ≠ gb470)); have n18_ := Aside0.mk ((by rw [hg]; exact Nat.ne_of_gt (blk_lt (g := gb460) (o := .cells #[.int .i64 t451, .slice Ao57 t452.length co57, .slice Ao59 t455.length co59] 26 (0, 0)) (by (with_reducible repeat (first | refine blk_drewN ?_ _ | refine blk_drew ?_ | refine blk_alloc ?_ _)); exact BK460.out)) : gb470 ≠ gb460)); clear HO444; clear HO447; clear HO454; clear HO457; clear HO464; clear HO467; clear BK435; clear BK450; clear BK460; clear HB; have HO444 := n0_; have HO447 := n1_; have HO454 := n2_; have HO457 := n3_; have HO464 := n4_; have HO467 := n5_; have BK435 := n6_; have BK450 := n7_; have BK460 := n8_; have HB := n9_; have BK470 := n10_; have GW470 := n11_; have GE470 := n12_; have NB435_470 := n13_; have NB470_435 := n14_; have NB450_470 := n15_; have NB470_450 := n16_; have NB460_470 := n17_; have NB470_460 := n18_; clear n0_ n1_ n2_ n3_ n4_ n5_ n6_ n7_ n8_ n9_ n10_ n11_ n12_ n13_ n14_ n15_ n16_ n17_ n18_; clear hb hbox hg; have hnb63 := NB470_435.out; have hnc63 := NB435_470.out; have hnb64 := NB470_450.out; have hnc64 := NB450_470.out; have hnb65 := NB470_460.out; have hnc65 := NB460_470.out; have hcz66_0 : w62.cell? ⟨gb470, 0, none⟩ = some (.int .i64 0) := (blk_cell BK470.out 0).trans rfl; have hcz66_1 : w62.cell? ⟨gb470, 1, none⟩ = some (.slice none 0 0) := (blk_cell BK470.out 1).trans rfl; have hcz66_2 : w62.cell? ⟨gb470, 2, none⟩ = some (.slice none 0 0) := (blk_cell BK470.out 2).trans rfl; have hfz66_0 := blk_frozen BK470.out 0; have hfz66_1 := blk_frozen BK470.out 1; have hfz66_2 := blk_frozen BK470.out 2; obtain ⟨Ao67, co67, eo67⟩ := Kd.R_slice HO464.out; subst eo67; obtain ⟨Ao68, co68, eo68⟩ := Kd.R_slice HO467.out; subst eo68))
                 go_ret
                 exact ⟨by first | rfl | (simp [errW_none, errW_some] <;> rfl) | (simp only [← hji24, ← hji31]; first | rfl | (simp [errW_none, errW_some] <;> rfl)) | (simp [*, errW_none, errW_some] <;> rfl), by repeat (first | (with_reducible first | exact HB.out | apply below_alloc | apply pw_below_drewN | apply below_drew1 | refine below_set ?_ GE435.out | refine below_set ?_ GE450.out | refine below_set ?_ GE460.out | refine below_set ?_ GE470.out) | exact HB.out)⟩
                ·rw [if_neg c42] at H
                 exact absurd H (by simp)
               ·rw [if_neg c41] at H
                exact absurd H (by simp)
              ·rw [if_neg c40] at H
               exact absurd H (by simp)
             ·rw [if_neg c39] at H
              exact absurd H (by simp)
            ·rw [if_neg c38] at H
             exact absurd H (by simp)
           ·rw [if_neg c36] at H
            exact absurd H (by simp)
          ·rw [if_neg c34] at H
           exact absurd H (by simp)
         ·rw [if_neg c33] at H
          exact absurd H (by simp)
        ·rw [if_neg c32] at H
         exact absurd H (by simp)
       ·rw [if_neg c30] at H
        exact absurd H (by simp)
      ·rw [if_neg c26] at H
       exact absurd H (by simp)
     ·rw [if_neg c25] at H
      exact absurd H (by simp)
def computuslaw26_CattextOffsets.Pure : Prop := ∀ (a0_0 : Int) (l0_1 : List (S41)) (l0_2 : List (S43)) (a1 : Int), (Lit.int .i64 a0_0).wf = true → l0_1.length ≤ maxLen → (∀ x ∈ l0_1, wf41 x) → l0_2.length ≤ maxLen → (∀ x ∈ l0_2, wf43 x) → (Lit.int .u16 a1).wf = true → ∃ k, computuslaw26_CattextOffsets.f k a0_0 l0_1 l0_2 a1 = some true
end Go.Proofs.YtlfokdbnbmebiaaDoor.Q
end
section
namespace Go.Proofs.YtlfokdbnbmebiaaDoor.Q
open Go.RowKit Go.Proofs.YtlfokdbnbmebiaaDoorW.PrintWords Go.Proofs.YtlfokdbnbmebiaaDoorW.PrintLast
set_option maxRecDepth 100000
def Cut (s : ByteArray) (k a : Nat) (u : List UInt8) : Prop := ∃ v w x, u = v ++ w ∧ Rest s a (v ++ x) ∧ k = a + v.length ∧ (x = [] ∨ ∃ q, x = 33 :: q) ∧ (w ≠ [] ∨ x ≠ [])
def Stuck (s : ByteArray) (k : Nat) : Prop := k ≤ s.size ∧ (k < s.size → bt s (k : Int) = 33)
def No33 (l : List ByteArray) : Prop := ∀ w ∈ l, ∀ m, m < w.size → bt w (m : Int) ≠ 33
theorem stuck_rest {s : ByteArray} {k : Nat} {x : List UInt8} (h : Rest s k x) (hx : x = [] ∨ ∃ q, x = 33 :: q) : Stuck s k := by
 refine ⟨h.1, fun hk => ?_⟩
 rcases hx with rfl | ⟨q, rfl⟩
 ·have := h.len; simp at this; omega
 ·exact (Rest.head h).2
theorem Cut.stuck {s : ByteArray} {k a : Nat} {u : List UInt8} (h : Cut s k a u) : Stuck s k := by
 obtain ⟨v, w, x, _, h2, rfl, h4, _⟩ := h
 exact stuck_rest h2.next h4
theorem no33Sp : No33 wSp := by unfold No33; decide +kernel
theorem no33Nl : No33 wNl := by unfold No33; decide +kernel
theorem no33Kinds : No33 wKinds := by unfold No33; decide +kernel
theorem no33Days : No33 tDays := by unfold No33; decide +kernel
theorem no33Pols : No33 tPols := by unfold No33; decide +kernel
theorem no33Head : No33 wHead := by unfold No33; decide +kernel
theorem no33H2 : No33 (wHeads.take 2) := by unfold No33; decide +kernel
theorem no33H3 : No33 (wHeads.take 3) := by unfold No33; decide +kernel
theorem stuck_com {s w : ByteArray} {k a d : Nat} (h : Stuck s k) (ha : a ≤ s.size) (hk : k = a + d) (hw : ∀ m, m < w.size → bt w (m : Int) ≠ 33) : com s a w ≤ d := by
 rcases Nat.lt_or_ge d (com s a w) with g | g
 ·exfalso
  have hag := (agr_iff (w := w) ha (d + 1)).2 g
  have e := hag.2.2 d (by omega)
  rw [← hk] at e
  rw [h.2 (by have := hag.2.1; omega)] at e
  exact hw d (by have := hag.1; omega) e
 ·exact g
theorem deadW {s : ByteArray} {l : List ByteArray} {k : Nat} (hs : Stuck s k) (hl : Wds l) (h3 : No33 l) {y : Sc} (hy : y.1 = k) : scW s l y = (-1, (k, true)) := by
 obtain ⟨F, b⟩ := y
 obtain rfl : F = k := hy
 cases b with
 | true => exact scW_bad rfl
 | false =>
  have h0 : ∀ w ∈ l, com s F w = 0 := fun w hw => by
   have := stuck_com (d := 0) hs hs.1 rfl (h3 w hw)
   omega
  have hm : most s F l ≤ 0 := most_le (fun w hw => by rw [h0 w hw]; exact Nat.le_refl _)
  have e := scW_of hl (x := (F, false)) rfl hs.1 (r := (false, F + most s F l, -1)) (.inr ⟨fun w hw => by rw [h0 w hw]; have := (hl.S w hw).1; omega, rfl⟩)
  rw [e, show F + most s F l = F by omega]
  rfl
theorem deadPN {s : ByteArray} {k : Nat} (hs : Stuck s k) {y : Sc} (hy : y.1 = k) : (pcN s y).2 = (k, true) := by
 unfold pcN
 rw [deadW hs wdSp no33Sp hy, scN_bad rfl]
theorem deadPC {s : ByteArray} {k : Nat} {l : List ByteArray} (hs : Stuck s k) {y : Sc} (hy : y.1 = k) : pcC s l y = (-1, (k, true)) := by
 unfold pcC
 rw [deadW hs wdSp no33Sp hy, scW_bad rfl]
theorem pcA1_no (s : ByteArray) (x : Sc) : pcA1 s (-1) x = (z39, x) := by unfold pcA1; rw [if_neg (by decide), if_neg (by decide), if_neg (by decide)]
theorem deadA {s : ByteArray} {k : Nat} (hs : Stuck s k) {y : Sc} (hy : y.1 = k) : (pcA s y).2 = (k, true) := by
 unfold pcA
 rw [deadPC hs hy, pcA1_no]
 dsimp only
 rw [scW_bad rfl]
theorem catL_dead {s : ByteArray} {k : Nat} (hs : Stuck s k) {m n : Nat} (hm : 0 < m) (hn : n = 2 ∨ n = 3) (ls : List S41) (lf : List S43) {y : Sc} (hy : y.1 = k) : (catL s m n ls lf y).2.2 = (k, true) := by
 by_cases hb : y.2 = true
 ·rw [catL_bad hb]
  obtain ⟨F, b⟩ := y
  obtain rfl : F = k := hy
  obtain rfl : b = true := hb
  rfl
 ·obtain ⟨m, rfl⟩ : ∃ j, m = j + 1 := ⟨m - 1, by omega⟩
  have e : scW s (wHeads.take n) y = (-1, (k, true)) := by
   rcases hn with rfl | rfl
   ·exact deadW hs wdH2 no33H2 hy
   ·exact deadW hs wdH3 no33H3 hy
  rw [catL, if_neg hb, e]
  dsimp only
  rw [if_neg (by decide), if_neg (by decide), if_neg (by decide), catL_bad rfl]
theorem cut_split {s : ByteArray} {k a : Nat} {t r : List UInt8} (h : Cut s k a (t ++ r)) :
  (∃ v x, Rest s a (t ++ (v ++ x)) ∧ Cut s k (a + t.length) r ∧ (x = [] ∨ ∃ q, x = 33 :: q) ∧ (∃ w, r = v ++ w)) ∨ (∃ v t' x, t = v ++ t' ∧ t' ≠ [] ∧ Rest s a (v ++ x) ∧ k = a + v.length ∧ (x = [] ∨ ∃ q, x = 33 :: q)) := by
 obtain ⟨v, w, x, h1, h2, h3, h4, h5⟩ := h
 rcases List.append_eq_append_iff.1 h1 with ⟨c, e1, e2⟩ | ⟨c, e1, e2⟩
 ·subst e1
  have h2' : Rest s a (t ++ (c ++ x)) := by rw [← List.append_assoc]; exact h2
  exact .inl ⟨c, x, h2', ⟨c, w, x, e2, h2'.next, by rw [h3, List.length_append]; omega, h4, h5⟩, h4, w, e2⟩
 ·by_cases hc : c = []
  ·subst hc
   rw [List.append_nil] at e1
   subst e1
   have e3 : r = [] ++ w := by rw [List.nil_append] at e2 ⊢; exact e2.symm
   exact .inl ⟨[], x, h2, ⟨[], w, x, e3, h2.next, by rw [h3]; rfl, h4, h5⟩, h4, w, e3⟩
  ·exact .inr ⟨v, c, x, e1, hc, h2, h3, h4⟩
theorem cutW {s : ByteArray} {k a : Nat} {l : List ByteArray} (hl : Wds l) (h3 : No33 l) {j : Nat} (hj : j < l.length) {r : List UInt8} (h : Cut s k a ((l[j]).data.toList ++ r)) :
  scW s l (a, false) = (-1, (k, true)) ∨ ∃ b, scW s l (a, false) = ((j : Int), (b, false)) ∧ Cut s k b r := by
 have hst := h.stuck
 rcases cut_split h with ⟨v, x, q1, q2, _⟩ | ⟨v, t', x, e1, ht, q2, q3, q4⟩
 ·obtain ⟨e, _⟩ := rdW1 hl hj q1
  rw [dl_len] at q2
  exact .inr ⟨_, e, q2⟩
 ·refine .inl ?_
  have hlen := congrArg List.length e1
  rw [dl_len, List.length_append] at hlen
  have htl : 0 < t'.length := by
   rcases t' with _ | _
   ·exact absurd rfl ht
   ·simp
  have hbt : ∀ m, m < v.length → bt l[j] (m : Int) = bt s ((a + m : Nat) : Int) := fun m hm => by
   have g1 := q2.at hm
   have g2 := bt_get (s := l[j]) (i := m) (b := v[m]) (by rw [e1, List.getElem?_append_left hm, List.getElem?_eq_getElem hm])
   rw [g1.2, g2.2]
  have hnx := q2.next.1
  have hag : v.length ≤ com s a l[j] := (agr_iff (w := l[j]) q2.1 _).1 ⟨by omega, by omega, hbt⟩
  have hle : ∀ w ∈ l, com s a w ≤ v.length := fun w hw => stuck_com hst q2.1 q3 (h3 w hw)
  have hmost : most s a l = v.length := Nat.le_antisymm (most_le hle) (Nat.le_trans hag (most_ge (List.getElem_mem hj)))
  have e := scW_of hl (x := (a, false)) rfl q2.1 (r := (false, a + most s a l, -1)) (.inr ⟨fun w hw hc => by
   obtain ⟨i, hi, rfl⟩ := List.mem_iff_getElem.1 hw
   have hle' := hle _ hw
   have hc' : com s a l[i] = l[i].size := hc
   by_cases hij : i = j
   ·subst hij
    omega
   ·have hai := (agr_iff (w := l[i]) q2.1 l[i].size).2 (by omega)
    exact hl.F i hi j hj hij ⟨by omega, fun m hm => (hai.2.2 m hm).trans (hbt m (by omega)).symm⟩, rfl⟩)
  rw [e, hmost, ← q3]
  rfl
theorem cutSp {s : ByteArray} {k a : Nat} {r : List UInt8} (h : Cut s k a ([32] ++ r)) : scW s wSp (a, false) = (-1, (k, true)) ∨ ∃ b, scW s wSp (a, false) = (0, (b, false)) ∧ Cut s k b r := cutW (j := 0) wdSp no33Sp (by decide) h
theorem cutNl {s : ByteArray} {k a : Nat} {r : List UInt8} (h : Cut s k a ([10] ++ r)) : scW s wNl (a, false) = (-1, (k, true)) ∨ ∃ b, scW s wNl (a, false) = (0, (b, false)) ∧ Cut s k b r := cutW (j := 0) wdNl no33Nl (by decide) h
theorem dec_dig : ∀ u : Nat, (∀ b ∈ Lib.decDigits u, 48 ≤ b.toNat ∧ b.toNat ≤ 57) ∧ (0 < u → ∃ b q, Lib.decDigits u = b :: q ∧ 49 ≤ b.toNat) := by
 intro u
 induction u using Nat.strongRecOn with
 | _ u ih =>
  by_cases h10 : u < 10
  ·rw [Lib.decDigits_one h10]
   have e : (UInt8.ofNat (48 + u)).toNat = 48 + u := by rw [UInt8.toNat_ofNat']; omega
   refine ⟨fun b hb => ?_, fun hu => ⟨_, _, rfl, by omega⟩⟩
   rw [List.mem_singleton.1 hb, e]
   omega
  ·have e : Lib.decDigits u = Lib.decDigits (u / 10) ++ [UInt8.ofNat (48 + u % 10)] := by rw [Lib.decDigits.eq_1 u, dif_neg h10]
   have e2 : (UInt8.ofNat (48 + u % 10)).toNat = 48 + u % 10 := by rw [UInt8.toNat_ofNat']; omega
   obtain ⟨g1, g2⟩ := ih (u / 10) (by omega)
   rw [e]
   refine ⟨fun b hb => ?_, fun _ => ?_⟩
   ·rcases List.mem_append.1 hb with h | h
    ·exact g1 b h
    ·rw [List.mem_singleton.1 h, e2]
     omega
   ·obtain ⟨b, q, h1, h2⟩ := g2 (by omega)
    exact ⟨b, q ++ [UInt8.ofNat (48 + u % 10)], by rw [h1]; rfl, h2⟩
theorem stuck_take {s : ByteArray} {k : Nat} (h : Stuck s k) {p : Int → Bool} (hp : p 33 = false) : scTake s k p = false := by
 unfold scTake
 by_cases hk : k < s.size
 ·rw [h.2 hk, hp]; simp
 ·simp [hk]
theorem runCut {s : ByteArray} {o u : Nat} {v t' x : List UInt8} (hu : 0 < u) (hlt : u < 10 ^ 10) (e : Lib.decDigits u = v ++ t') (hv : v ≠ []) (h : Rest s o (v ++ x)) (hs : Stuck s (o + v.length)) :
  scTake s o pLeading = true ∧ scRun pDigit s 9 (o + 1) = o + v.length := by
 obtain ⟨g1, g2⟩ := dec_dig u
 obtain ⟨b, q, e2, h49⟩ := g2 hu
 have hlen := dec_len 9 u hlt
 rw [e, List.length_append] at hlen
 have hvl : 0 < v.length := List.length_pos_iff.2 hv
 have hd : ∀ i, (hi : i < v.length) → 48 ≤ v[i].toNat ∧ v[i].toNat ≤ 57 := fun i hi => g1 _ (by rw [e]; exact List.mem_append_left _ (List.getElem_mem hi))
 have h0 : v[0] = b := by
  have := congrArg (fun l => l[0]?) (e.symm.trans e2)
  simp only [List.getElem?_append_left hvl, List.getElem?_eq_getElem hvl, List.getElem?_cons_zero] at this
  exact Option.some.inj this
 have a0 := h.at hvl
 rw [Nat.add_zero, h0] at a0
 have d0 := hd 0 hvl
 rw [h0] at d0
 refine ⟨take_iff.2 ⟨a0.1, by simp [pLeading]; omega⟩, ?_⟩
 rw [scRun_at pDigit s 9 (v.length - 1) (o + 1) (by omega) (fun i hi => by
  have hi' : i + 1 < v.length := by omega
  have a1 := h.at hi'
  have d1 := hd (i + 1) hi'
  rw [show o + 1 + i = o + (i + 1) by omega]
  exact take_iff.2 ⟨a1.1, by simp only [pDigit, Bool.and_eq_true, decide_eq_true_eq]; omega⟩) (fun _ => by
  rw [show o + 1 + (v.length - 1) = o + v.length by omega]
  exact stuck_take hs (by decide))]
 omega
theorem cutN {s : ByteArray} {k a : Nat} {n : Int} {r : List UInt8} (hn : inN n = true) (hr : NoDig r) (h : Cut s k a ((numB n).data.toList ++ r)) :
  (scN s (a, false)).2.1 = k ∨ ∃ b, scN s (a, false) = (n, (b, false)) ∧ Cut s k b r := by
 have hst := h.stuck
 rcases cut_split h with ⟨v, x, q1, q2, q3, w, q4⟩ | ⟨v, t', x, e1, ht, q2, q3, q4⟩
 ·obtain ⟨b, e, g⟩ := rdN1 hn q1 (fun c q hc => by
   cases v with
   | nil =>
    rcases q3 with rfl | ⟨q', rfl⟩
    ·exact absurd hc (by simp)
    ·have := (List.cons.inj hc).1
     subst this
     exact .inl (by decide)
   | cons d v =>
    have := (List.cons.inj hc).1
    subst this
    exact hr d (v ++ w) q4)
  have hb : b = a + (numB n).data.toList.length := by
   have l1 := q1.len
   have l2 := g.len
   rw [List.length_append] at l1
   omega
  rw [← hb] at q2
  exact .inr ⟨b, e, q2⟩
 ·refine .inl ?_
  have hn' := inN_iff.1 hn
  have hkk : Stuck s (a + v.length) := q3 ▸ hst
  rw [numB_list] at e1
  show (scNum s a).2.1 = k
  have hnil : v = [] → (scNum s a).2.1 = k := fun hv => by
   subst hv
   have hs0 : Stuck s a := hkk
   unfold scNum
   rw [if_neg (by rw [stuck_take hs0 (by decide)]; decide), if_neg (by rw [stuck_take hs0 (by decide)]; decide), if_neg (by rw [stuck_take hs0 (by decide)]; decide)]
   rw [q3]
   rfl
  by_cases hv : v = []
  ·exact hnil hv
  ·by_cases h0 : n < 0
   ·obtain ⟨u, rfl⟩ : ∃ u : Nat, n = -(u : Int) := ⟨n.natAbs, by omega⟩
    rw [Lib.itoa_neg u (by omega)] at e1
    cases v with
    | nil => exact absurd rfl hv
    | cons c v =>
     rw [List.cons_append] at e1
     obtain ⟨rfl, e2⟩ := List.cons.inj e1
     have g1 := Rest.head (r := v ++ x) q2
     have g2 : Rest s (a + 1) (v ++ x) := Rest.next (t := [45]) q2
     have hs1 : Stuck s (a + 1 + v.length) := by rw [List.length_cons] at hkk; rwa [show a + 1 + v.length = a + (v.length + 1) by omega]
     have h45 : bt s (a : Int) = 45 := g1.2
     unfold scNum
     rw [if_neg (by rw [take_iff]; intro hc; have := pIs_iff.1 hc.2; omega), if_pos (take_iff.2 ⟨g1.1, pIs_iff.2 h45⟩)]
     by_cases hv2 : v = []
     ·subst hv2
      rw [if_neg (by rw [stuck_take (k := a + 1) hs1 (by decide)]; decide)]
      rw [q3]
      rfl
     ·obtain ⟨r1, r2⟩ := runCut (by omega) (by omega) e2 hv2 g2 hs1
      rw [if_pos r1]
      show scRun pDigit s 9 (a + 1 + 1) = k
      rw [r2, q3, List.length_cons]
      omega
   ·obtain ⟨u, rfl⟩ : ∃ u : Nat, n = (u : Int) := ⟨n.natAbs, by omega⟩
    rw [Lib.itoa_nonneg] at e1
    have hu : 0 < u := by
     rcases Nat.eq_zero_or_pos u with rfl | h
     ·exfalso
      rw [Lib.decDigits_one (by decide)] at e1
      have := congrArg List.length e1
      rw [List.length_append, List.length_singleton] at this
      have h1 := List.length_pos_iff.2 hv
      have h2 := List.length_pos_iff.2 ht
      omega
     ·exact h
    obtain ⟨r1, r2⟩ := runCut hu (by omega) e1 hv q2 hkk
    have hd := lead_iff r1
    unfold scNum
    rw [if_neg (by rw [take_iff]; intro hc; have := pIs_iff.1 hc.2; omega), if_neg (by rw [take_iff]; intro hc; have := pIs_iff.1 hc.2; omega), if_pos r1]
    show scRun pDigit s 9 (a + 1) = k
    rw [r2, q3]
end Go.Proofs.YtlfokdbnbmebiaaDoor.Q
end
section
namespace Go.Proofs.YtlfokdbnbmebiaaDoor.Q
open Go.RowKit Go.Proofs.YtlfokdbnbmebiaaDoorW.PrintWords Go.Proofs.YtlfokdbnbmebiaaDoorW.PrintLast
set_option maxRecDepth 100000
theorem idRun2 {s : ByteArray} {i E : Nat} (hI : IdAt s i E) (e1 : scTake s E pPart = false) (e2 : scTake s E (pIs 45) = false) : ∀ (k j : Nat), i + 40 ≤ j + k → i < j → j ≤ E → scIdLoop s i k j = (true, E) := by
 intro k
 induction k using Nat.strongRecOn with
 | _ k ih =>
  intro j h1 h2 h3
  obtain ⟨a1, a2, a3, a4, a5⟩ := hI
  rcases Nat.eq_or_lt_of_le h3 with rfl | h4
  ·cases k with
   | zero => rfl
   | succ k =>
    rw [scIdLoop]
    split
    ·rw [e1, e2]; simp
    ·rfl
  ·cases k with
   | zero => omega
   | succ k =>
    rw [scIdLoop, if_pos (by omega)]
    rcases a5 j h2 h4 with b | ⟨b1, b2, b3⟩
    ·rw [if_pos (take_iff.2 ⟨by omega, b⟩)]
     exact ih k (by omega) (j + 1) (by omega) (by omega) (by omega)
    ·have e1 : ¬ scTake s j pPart = true := by
      rw [take_iff]
      intro hc
      exact (part_not hc.2).1 b1
     rw [if_neg e1, if_pos ⟨by omega, take_iff.2 ⟨by omega, pIs_iff.2 b1⟩⟩, if_pos (take_iff.2 ⟨by omega, b3⟩)]
     exact ih k (by omega) (j + 2) (by omega) (by omega) (by omega)
theorem idCut {s t : ByteArray} {a k : Nat} (hI : IdAt t 0 t.size) (hs : Stuck s k) (hk : k < a + t.size) (hb : ∀ m, a + m < k → bt s ((a + m : Nat) : Int) = bt t (m : Int)) : ∀ (d j : Nat), a + 40 ≤ j + d → a < j → j ≤ k → (scIdLoop s a d j).2 = k := by
 intro d
 induction d using Nat.strongRecOn with
 | _ d ih =>
  intro j h1 h2 h3
  obtain ⟨a1, a2, a3, a4, a5⟩ := hI
  have hsz := hs.1
  rcases Nat.eq_or_lt_of_le h3 with rfl | h4
  ·cases d with
   | zero => rfl
   | succ d =>
    rw [scIdLoop]
    split
    ·rw [stuck_take hs (by decide), stuck_take hs (by decide)]; simp
    ·rfl
  ·cases d with
   | zero => omega
   | succ d =>
    rw [scIdLoop, if_pos (by omega)]
    have e := hb (j - a) (by omega)
    rw [show a + (j - a) = j by omega] at e
    rcases a5 (j - a) (by omega) (by omega) with b | ⟨b1, b2, b3⟩
    ·rw [if_pos (take_iff.2 ⟨by omega, by rw [e]; exact b⟩)]
     exact ih d (by omega) (j + 1) (by omega) (by omega) (by omega)
    ·have e1 : ¬ scTake s j pPart = true := by
      rw [take_iff]
      intro hc
      exact (part_not hc.2).1 (by rw [e]; exact b1)
     rw [if_neg e1, if_pos ⟨by omega, take_iff.2 ⟨by omega, pIs_iff.2 (by rw [e]; exact b1)⟩⟩]
     rcases Nat.eq_or_lt_of_le (show j + 1 ≤ k by omega) with g | g
     ·rw [if_neg (by rw [g, stuck_take hs (by decide)]; decide)]
      exact g
     ·have e2 := hb (j - a + 1) (by omega)
      rw [show a + (j - a + 1) = j + 1 by omega] at e2
      rw [if_pos (take_iff.2 ⟨by omega, by rw [e2]; exact b3⟩)]
      exact ih d (by omega) (j + 2) (by omega) (by omega) (by omega)
theorem cutI {s t : ByteArray} {k a : Nat} {r : List UInt8} (ht : idB t = true) (h : Cut s k a (t.data.toList ++ ([32] ++ r))) :
  (scI s (a, false)).2.1 = k ∨ ∃ b, scI s (a, false) = (t, (b, false)) ∧ Cut s k b ([32] ++ r) := by
 have hst := h.stuck
 have hId := idB_iff.1 ht
 obtain ⟨a1, a2, a3, a4, a5⟩ := idB_iff.1 ht
 rcases cut_split h with ⟨v, x, q1, q2, q3, w, q4⟩ | ⟨v, t', x, e1, htn, q2, q3, q4⟩
 ·refine .inr ?_
  rw [dl_len] at q2
  have hn := q1.next
  rw [dl_len] at hn
  have hag := q1.agr
  have hb : ∀ m, m < t.size → bt t (m : Int) = bt s ((a + m : Nat) : Int) := hag.2.2
  have hI : IdAt s a (a + t.size) := by
   refine ⟨by omega, hag.2.1, by omega, by rw [← Nat.add_zero a, ← hb 0 (by omega)]; exact a4, fun q q0 q1 => ?_⟩
   have e := hb (q - a) (by omega)
   rw [show a + (q - a) = q by omega] at e
   rcases a5 (q - a) (by omega) (by omega) with c | ⟨c1, c2, c3⟩
   ·exact .inl (e ▸ c)
   ·refine .inr ⟨e ▸ c1, by omega, ?_⟩
    have e2 := hb (q - a + 1) (by omega)
    rw [show a + (q - a + 1) = q + 1 by omega] at e2
    rw [← e2]
    exact c3
  have hend : scTake s (a + t.size) pPart = false ∧ scTake s (a + t.size) (pIs 45) = false := by
   cases v with
   | nil =>
    have hs2 := stuck_rest hn q3
    exact ⟨stuck_take hs2 (by decide), stuck_take hs2 (by decide)⟩
   | cons c v =>
    have hc := (List.cons.inj q4).1
    subst hc
    have h32 := Rest.head (r := v ++ x) hn
    have h32' : bt s ((a + t.size : Nat) : Int) = 32 := h32.2
    exact ⟨by unfold scTake; rw [h32']; simp [pPart, pLetter, pDigit], by unfold scTake; rw [h32']; simp [pIs]⟩
  have e : scIdent s a = (true, a + t.size) := by
   unfold scIdent
   rw [if_pos (take_iff.2 ⟨by have := hI.2.1; omega, hI.2.2.2.1⟩)]
   exact idRun2 hI hend.1 hend.2 39 (a + 1) (by omega) (by omega) (by omega)
  refine ⟨a + t.size, ?_, q2⟩
  unfold scI
  rw [if_neg (show ¬ ((a, false) : Sc).2 = true from Bool.false_ne_true)]
  show ((if (scIdent s a).1 then s.extract a (scIdent s a).2 else ⟨#[]⟩, (scIdent s a).2, !(scIdent s a).1) : ByteArray × Sc) = _
  rw [e]
  have ex : s.extract a (a + t.size) = t := by
   refine ByteArray.ext (Array.toList_inj.1 ?_)
   rw [ByteArray.data_extract, Array.toList_extract, List.extract, q1.2, show a + t.size - a = t.size by omega, ← dl_len t, List.take_left]
  show ((s.extract a (a + t.size), a + t.size, false) : ByteArray × Sc) = _
  rw [ex]
 ·refine .inl ?_
  have hlen := congrArg List.length e1
  rw [dl_len, List.length_append] at hlen
  have htl : 0 < t'.length := List.length_pos_iff.2 htn
  show (scIdent s a).2 = k
  have hbt : ∀ m, a + m < k → bt s ((a + m : Nat) : Int) = bt t (m : Int) := fun m hm => by
   have hm' : m < v.length := by omega
   have g1 := q2.at hm'
   have g2 := bt_get (s := t) (i := m) (b := v[m]) (by rw [e1, List.getElem?_append_left hm', List.getElem?_eq_getElem hm'])
   rw [g1.2, g2.2]
  unfold scIdent
  by_cases hv : v = []
  ·subst hv
   rw [List.length_nil, Nat.add_zero] at q3
   subst q3
   rw [if_neg (by rw [stuck_take hst (by decide)]; decide)]
  ·have hvl : 0 < v.length := List.length_pos_iff.2 hv
   have h0 := hbt 0 (by omega)
   rw [Nat.add_zero] at h0
   have hsz := hst.1
   rw [if_pos (take_iff.2 ⟨by omega, by rw [h0]; exact a4⟩)]
   exact idCut hId hst (by omega) hbt 39 (a + 1) (by omega) (by omega) (by omega)
theorem cutPN {s : ByteArray} {k a : Nat} {n : Int} {ws : List ByteArray} {r : List UInt8} (hn : inN n = true) (h : Cut s k a (tl (numB n :: ws) ++ ([10] ++ r))) : (pcN s (a, false)).2.1 = k ∨ ∃ b, pcN s (a, false) = (n, (b, false)) ∧ Cut s k b (tl ws ++ ([10] ++ r)) := by
 rw [tl_cons, List.append_assoc, List.append_assoc] at h
 unfold pcN
 rcases cutSp h with e | ⟨b, e, g⟩
 ·rw [e, scN_bad rfl]; exact .inl rfl
 ·rw [e]; exact cutN hn (noDig_tl ws r) g
theorem cutPI {s t w : ByteArray} {k a : Nat} {ws : List ByteArray} {r : List UInt8} (ht : idB t = true) (h : Cut s k a (tl (t :: w :: ws) ++ ([10] ++ r))) : (pcI s (a, false)).2.1 = k ∨ ∃ b, pcI s (a, false) = (t, (b, false)) ∧ Cut s k b (tl (w :: ws) ++ ([10] ++ r)) := by
 rw [tl_cons, List.append_assoc, List.append_assoc] at h
 unfold pcI
 rcases cutSp h with e | ⟨b, e, g⟩
 ·rw [e, scI_bad rfl]; exact .inl rfl
 ·rw [e]
  rw [tl_cons, List.append_assoc, List.append_assoc] at g ⊢
  exact cutI ht g
theorem cutPC {s : ByteArray} {l : List ByteArray} (hl : Wds l) (h3 : No33 l) {k a j : Nat} (hj : j < l.length) {ws : List ByteArray} {r : List UInt8} (h : Cut s k a (tl (l[j] :: ws) ++ ([10] ++ r))) : pcC s l (a, false) = (-1, (k, true)) ∨ ∃ b, pcC s l (a, false) = ((j : Int), (b, false)) ∧ Cut s k b (tl ws ++ ([10] ++ r)) := by
 rw [tl_cons, List.append_assoc, List.append_assoc] at h
 unfold pcC
 rcases cutSp h with e | ⟨b, e, g⟩
 ·rw [e, scW_bad rfl]; exact .inl rfl
 ·rw [e]; exact cutW hl h3 hj g
theorem cutEnd {s : ByteArray} {k : Nat} (hs : Stuck s k) {α : Type} {p : α × Sc} (h : p.2.1 = k) : ((p.1, (scW s wNl p.2).2) : α × Sc).2.1 = k := by
 show (scW s wNl p.2).2.1 = k
 rw [deadW hs wdNl no33Nl h]
theorem cutA {s : ByteArray} {k a : Nat} {x : S39} {r : List UInt8} (hx : anB x = true) (h : Cut s k a (tl (frW x) ++ ([10] ++ r))) : (pcA s (a, false)).2.1 = k ∨ ∃ b, pcA s (a, false) = (x, (b, false)) ∧ Cut s k b r := by
 have hst := h.stuck
 obtain ⟨f0, f1, f2, f3, f4, f5⟩ := x
 simp only [anB, Bool.and_eq_true] at hx
 obtain ⟨h1, h2, h3, h5, hk⟩ := hx
 unfold anK at hk
 unfold frW at h
 dsimp only at hk h
 -- what is behind the kind's word
 have fin : ∀ {y : S39 × Sc} {z : S39}, (y.2.1 = k ∨ ∃ b, y = (z, (b, false)) ∧ Cut s k b ([10] ++ r)) → ((y.1, (scW s wNl y.2).2) : S39 × Sc).2.1 = k ∨ ∃ b, (y.1, (scW s wNl y.2).2) = (z, (b, false)) ∧ Cut s k b r := fun {y z} hy => by
  rcases hy with d | ⟨b, rfl, g⟩
  ·exact .inl (cutEnd hst d)
  ·rcases cutNl g with e | ⟨c, e, g2⟩
   ·exact .inl (by dsimp only; rw [e])
   ·exact .inr ⟨c, by dsimp only; rw [e], g2⟩
 have noK : pcC s wKinds (a, false) = (-1, (k, true)) → (pcA s (a, false)).2.1 = k := fun e => by
  unfold pcA
  rw [e]
  dsimp only
  rw [pcA1_no]
  dsimp only
  rw [scW_bad rfl]
 by_cases c1 : f0 = 1
 ·subst c1
  rw [if_pos rfl] at h
  simp only [if_true, Bool.and_eq_true, beq_iff_eq] at hk
  obtain ⟨rfl, rfl, rfl⟩ := hk
  rcases cutPC (j := 0) wdKinds no33Kinds (by decide) h with e1 | ⟨b1, e1, g1⟩
  ·exact .inl (noK e1)
  ·unfold pcA
   rw [e1]
   refine fin ?_
   have e0 : pcA1 s ((0 : Nat) : Int) (b1, false) = (⟨1, (pcN s (b1, false)).1, (pcN s (pcN s (b1, false)).2).1, 0, 0, 0⟩, (pcN s (pcN s (b1, false)).2).2) := by unfold pcA1; exact if_pos rfl
   dsimp only
   rw [e0]
   rcases cutPN h1 g1 with d | ⟨b2, e2, g2⟩
   ·exact .inl (by dsimp only; rw [deadPN hst d])
   ·rw [e2]
    dsimp only
    rcases cutPN h2 g2 with d | ⟨b3, e3, g3⟩
    ·exact .inl d
    ·exact .inr ⟨b3, by rw [e3], g3⟩
 ·rw [if_neg c1] at h hk
  by_cases c2 : f0 = 2
  ·subst c2
   rw [if_pos rfl] at h
   simp only [if_true, Bool.and_eq_true, beq_iff_eq] at hk
   obtain ⟨rfl, rfl, rfl, rfl⟩ := hk
   rcases cutPC (j := 1) wdKinds no33Kinds (by decide) h with e1 | ⟨b1, e1, g1⟩
   ·exact .inl (noK e1)
   ·unfold pcA
    rw [e1]
    refine fin ?_
    have e0 : pcA1 s ((1 : Nat) : Int) (b1, false) = (⟨2, 0, 0, (pcN s (b1, false)).1, 0, 0⟩, (pcN s (b1, false)).2) := by unfold pcA1; exact (if_neg (by decide)).trans (if_pos rfl)
    dsimp only
    rw [e0]
    rcases cutPN h3 g1 with d | ⟨b2, e2, g2⟩
    ·exact .inl d
    ·exact .inr ⟨b2, by rw [e2], g2⟩
  ·rw [if_neg c2] at h hk
   by_cases c3 : f0 = 3
   ·subst c3
    simp only [if_true, Bool.and_eq_true, beq_iff_eq, decide_eq_true_eq] at hk
    obtain ⟨rfl, hw0, hw6⟩ := hk
    obtain ⟨j, rfl⟩ : ∃ j : Nat, f4 = (j : Int) := ⟨f4.toNat, by omega⟩
    have h7 : tDays.length = 7 := rfl
    have hj : j < tDays.length := by omega
    rw [wk_get hj] at h
    rcases cutPC (j := 2) wdKinds no33Kinds (by decide) h with e1 | ⟨b1, e1, g1⟩
    ·exact .inl (noK e1)
    ·unfold pcA
     rw [e1]
     refine fin ?_
     have e0 : pcA1 s ((2 : Nat) : Int) (b1, false) = (⟨3, (pcN s (pcN s (pcC s tDays (b1, false)).2).2).1, (pcN s (pcN s (pcN s (pcC s tDays (b1, false)).2).2).2).1, 0, (pcC s tDays (b1, false)).1, (pcN s (pcC s tDays (b1, false)).2).1⟩, (pcN s (pcN s (pcN s (pcC s tDays (b1, false)).2).2).2).2) := by
      unfold pcA1; exact (if_neg (by decide)).trans ((if_neg (by decide)).trans (if_pos rfl))
     dsimp only
     rw [e0]
     rcases cutPC wdDays no33Days hj g1 with d | ⟨b2, e2, g2⟩
     ·exact .inl (by dsimp only; rw [d]; dsimp only; rw [deadPN hst (y := (k, true)) rfl, deadPN hst (y := (k, true)) rfl, deadPN hst (y := (k, true)) rfl])
     ·rw [e2]
      dsimp only
      rcases cutPN h5 g2 with d | ⟨b3, e3, g3⟩
      ·exact .inl (by rw [deadPN hst d, deadPN hst (y := (k, true)) rfl])
      ·rw [e3]
       dsimp only
       rcases cutPN h1 g3 with d | ⟨b4, e4, g4⟩
       ·exact .inl (by rw [deadPN hst d])
       ·rw [e4]
        dsimp only
        rcases cutPN h2 g4 with d | ⟨b5, e5, g5⟩
        ·exact .inl d
        ·exact .inr ⟨b5, by rw [e5], g5⟩
   ·rw [if_neg c3] at hk
    exact ff' hk
theorem cutF {s : ByteArray} {k a : Nat} {x : S43} {r : List UInt8} (hx : feB x = true) (h : Cut s k a (tl ([x.f0, numB x.f1, polB x.f2] ++ frW x.f3) ++ ([10] ++ r))) : (pcF s (a, false)).2.1 = k ∨ ∃ b, pcF s (a, false) = (x, (b, false)) ∧ Cut s k b r := by
 have hst := h.stuck
 simp only [feB, Bool.and_eq_true, decide_eq_true_eq] at hx
 obtain ⟨h1, h2, h3, h4, h5⟩ := hx
 have hl : tPols.length = 3 := rfl
 obtain ⟨p, hk⟩ : ∃ p : Nat, x.f2 = (p : Int) + 1 := ⟨(x.f2 - 1).toNat, by omega⟩
 have hk3 : p < tPols.length := by omega
 have hp : polB x.f2 = tPols[p] := by
  rw [hk]
  unfold polB
  rw [show ((p : Int) + 1 - 1).toNat = p by omega]
  simp [List.getD, hk3]
 rw [hp] at h
 unfold pcF
 dsimp only
 rcases cutPI (ws := tPols[p] :: frW x.f3) h1 h with d | ⟨b1, e1, g1⟩
 ·exact .inl (by rw [deadPN hst d, deadPC hst (y := (k, true)) rfl]; dsimp only; rw [deadA hst (y := (k, true)) rfl])
 ·rw [e1]
  dsimp only
  rcases cutPN h2 g1 with d | ⟨b2, e2, g2⟩
  ·exact .inl (by rw [deadPC hst d]; dsimp only; rw [deadA hst (y := (k, true)) rfl])
  ·rw [e2]
   dsimp only
   rcases cutPC wdPols no33Pols hk3 g2 with d | ⟨b3, e3, g3⟩
   ·exact .inl (by rw [d]; dsimp only; rw [deadA hst (y := (k, true)) rfl])
   ·rw [e3]
    dsimp only
    rcases cutA h5 g3 with d | ⟨b4, e4, g4⟩
    ·exact .inl d
    ·exact .inr ⟨b4, by rw [e4, show wrap64 ((p : Int) + 1) = x.f2 by rw [hk]; unfold wrap64; omega], g4⟩
theorem cutS {s : ByteArray} {k a : Nat} {x : S41} {r : List UInt8} (hx : seB x = true) (h : Cut s k a (tl ([x.f0, numB x.f1, numB x.f2] ++ frW x.f3) ++ ([10] ++ r))) : (pcS s (a, false)).2.1 = k ∨ ∃ b, pcS s (a, false) = (x, (b, false)) ∧ Cut s k b r := by
 have hst := h.stuck
 simp only [seB, Bool.and_eq_true] at hx
 obtain ⟨h1, h2, h3, h5⟩ := hx
 unfold pcS
 dsimp only
 rcases cutPI (ws := numB x.f2 :: frW x.f3) h1 h with d | ⟨b1, e1, g1⟩
 ·exact .inl (by rw [deadPN hst d, deadPN hst (y := (k, true)) rfl, deadA hst (y := (k, true)) rfl])
 ·rw [e1]
  dsimp only
  rcases cutPN h2 g1 with d | ⟨b2, e2, g2⟩
  ·exact .inl (by rw [deadPN hst d, deadA hst (y := (k, true)) rfl])
  ·rw [e2]
   dsimp only
   rcases cutPN h3 g2 with d | ⟨b3, e3, g3⟩
   ·exact .inl (by rw [deadA hst d])
   ·rw [e3]
    dsimp only
    rcases cutA h5 g3 with d | ⟨b4, e4, g4⟩
    ·exact .inl d
    ·exact .inr ⟨b4, by rw [e4], g4⟩
end Go.Proofs.YtlfokdbnbmebiaaDoor.Q
end
