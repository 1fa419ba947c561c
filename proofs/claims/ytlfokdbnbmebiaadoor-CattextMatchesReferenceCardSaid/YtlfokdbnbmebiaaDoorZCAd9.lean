/- What is proved: what the statement CattextAcceptedSaid needs, part 10 of 11; the last part proves the statement. No condition. -/
import Derived.Test.YtlfokdbnbmebiaaDoorZCAd8
import Derived.Deep.MidRow
set_option maxHeartbeats 8000000
set_option maxRecDepth 100000
set_option linter.unusedVariables false
set_option linter.unusedSimpArgs false
section
namespace Go.Proofs.YtlfokdbnbmebiaaDoor.Q
open Go.RowKit Go.Proofs.YtlfokdbnbmebiaaDoorW.PrintWords Go.Proofs.YtlfokdbnbmebiaaDoorW.PrintLast Go.Proofs.YtlfokdbnbmebiaaDoorW.PrintMore
set_option maxRecDepth 100000
def polB (p : Int) : ByteArray := tPols.getD (p - 1).toNat ⟨#[]⟩
def seaW (x : S41) : List ByteArray := [⟨#[115, 101, 97, 115, 111, 110]⟩, x.f0, numB x.f1, numB x.f2]
def feaW (x : S43) : List ByteArray := [⟨#[102, 101, 97, 115, 116]⟩, x.f0, numB x.f1, polB x.f2]
def seaL (x : S41) : List UInt8 := lineL (seaW x ++ frW x.f3)
def feaL (x : S43) : List UInt8 := lineL (feaW x ++ frW x.f3)
def topL (fr : Int) : List UInt8 := lineL [⟨#[99, 97, 116, 97, 108, 111, 103, 117, 101]⟩] ++ lineL [⟨#[102, 114, 101, 101]⟩, numB fr]
def endL : List UInt8 := lineL [⟨#[101, 110, 100]⟩]
def catT (fr : Int) (ls : List S41) (lf : List S43) : List UInt8 := topL fr ++ (ls.map seaL).flatten ++ (lf.map feaL).flatten ++ endL
def okS (x : S41) : Prop := x.f0.size ≤ 1000000 ∧ inI x.f1 ∧ inI x.f2 ∧ inA x.f3
def okF (x : S43) : Prop := x.f0.size ≤ 1000000 ∧ inI x.f1 ∧ (1 ≤ x.f2 ∧ x.f2 ≤ 3) ∧ inA x.f3
instance (x : S41) : Decidable (okS x) := inferInstanceAs (Decidable (_ ∧ _))
instance (x : S43) : Decidable (okF x) := inferInstanceAs (Decidable (_ ∧ _))
def okC (fr : Int) (ls : List S41) (lf : List S43) : Prop := inI fr ∧ ls.length ≤ 1000000 ∧ lf.length ≤ 1000000 ∧ (∀ x ∈ ls, okS x) ∧ ∀ x ∈ lf, okF x
instance (fr : Int) (ls : List S41) (lf : List S43) : Decidable (okC fr ls lf) := inferInstanceAs (Decidable (_ ∧ _ ∧ _ ∧ _ ∧ _))
def cattext_Print.f (a0_0 : Int) (l0_1 : List S41) (l0_2 : List S43) : Option ByteArray := if okC a0_0 l0_1 l0_2 then some ⟨(catT a0_0 l0_1 l0_2).toArray⟩ else none
theorem join_len (sep : List UInt8) : ∀ (x : List UInt8) (r : List (List UInt8)), (Lib.join (x :: r) sep).length = x.length + (r.map fun y => sep.length + y.length).sum
 | x, [] => by simp [Lib.join_one]
 | x, y :: r => by
  rw [Lib.join_cons]
  have e : (List.length ∘ fun z : List UInt8 => sep ++ z) = fun y => sep.length + y.length := by funext z; simp
  simp only [Lib.joinTail, List.length_flatten, List.map_map, List.length_append, List.map_cons, List.sum_cons, e]
theorem lineL_le (ws : List ByteArray) (K : Nat) (h : ∀ x ∈ ws, x.size ≤ K) : (lineL ws).length ≤ ws.length * (K + 1) + 1 := by
 unfold lineL
 rw [List.length_append]
 cases ws with
 | nil => simp [Lib.join_nil]
 | cons x r =>
  rw [List.map_cons, join_len]
  have h1 : x.data.toList.length ≤ K := h x (by simp)
  have h2 : ((r.map (·.data.toList)).map fun y => ([32] : List UInt8).length + y.length).sum ≤ r.length * (K + 1) := by
   have h3 : ∀ l : List ByteArray, (∀ y ∈ l, y.size ≤ K) → ((l.map (·.data.toList)).map fun y => ([32] : List UInt8).length + y.length).sum ≤ l.length * (K + 1) := by
    intro l
    induction l with
    | nil => intro _; simp
    | cons y l ih =>
     intro hy
     have h4 := ih (fun z hz => hy z (by simp [hz]))
     have h5 : y.data.toList.length ≤ K := hy y (by simp)
     simp only [List.map_cons, List.sum_cons, List.length_cons, List.length_nil] at h4 ⊢
     rw [Nat.add_mul]
     omega
   exact h3 r (fun y hy => h y (by simp [hy]))
  have e : ([10] : List UInt8).length = 1 := rfl
  have e2 : (x :: r).length = r.length + 1 := rfl
  rw [e, e2, Nat.add_mul]
  omega
theorem numB_le {n : Int} (h : inI n) : (numB n).size ≤ 21 := Lib.itoa_length_le n h.1 h.2
theorem wkName_le (n : Int) : (wkName n).size ≤ 9 := by
 unfold wkName
 split
 ·rename_i h
  obtain ⟨k, rfl⟩ : ∃ k : Nat, n = (k : Int) := ⟨n.toNat, by omega⟩
  rw [Int.toNat_natCast]
  have : ∀ k, k < 7 → (tDays.getD k ⟨#[]⟩).size ≤ 9 := by decide +kernel
  exact this k (by omega)
 ·exact Nat.zero_le _
theorem polB_le {p : Int} (h : 1 ≤ p ∧ p ≤ 3) : (polB p).size ≤ 11 := by
 unfold polB
 have : ∀ k, k < 3 → (tPols.getD k ⟨#[]⟩).size ≤ 11 := by decide +kernel
 exact this _ (by omega)
theorem frW_le {a : S39} (h : inA a) : (∀ x ∈ frW a, x.size ≤ 21) ∧ (frW a).length ≤ 5 := by
 obtain ⟨_, h1, h2, h3, h4⟩ := h
 have n1 := numB_le h1; have n2 := numB_le h2; have n3 := numB_le h3; have n4 := numB_le h4
 have n5 := wkName_le a.f4
 unfold frW
 split
 ·refine ⟨fun x hx => ?_, by simp⟩
  simp only [List.mem_cons, List.not_mem_nil, or_false] at hx
  rcases hx with rfl | rfl | rfl
  ·decide
  ·exact n1
  ·exact n2
 ·split
  ·refine ⟨fun x hx => ?_, by simp⟩
   simp only [List.mem_cons, List.not_mem_nil, or_false] at hx
   rcases hx with rfl | rfl
   ·decide
   ·exact n3
  ·refine ⟨fun x hx => ?_, by simp⟩
   simp only [List.mem_cons, List.not_mem_nil, or_false] at hx
   rcases hx with rfl | rfl | rfl | rfl | rfl
   ·decide
   ·omega
   ·exact n4
   ·exact n1
   ·exact n2
theorem seaL_le {x : S41} (h : okS x) : (seaL x).length ≤ 10000000 := by
 obtain ⟨h0, h1, h2, h3⟩ := h
 obtain ⟨f1, f2⟩ := frW_le h3
 have n1 := numB_le h1; have n2 := numB_le h2
 have h := lineL_le (seaW x ++ frW x.f3) 1000000 (fun y hy => by
  rcases List.mem_append.1 hy with hy | hy
  ·simp only [seaW, List.mem_cons, List.not_mem_nil, or_false] at hy
   rcases hy with rfl | rfl | rfl | rfl
   ·decide
   ·exact h0
   ·omega
   ·omega
  ·have := f1 y hy; omega)
 have e : (seaW x).length = 4 := rfl
 rw [List.length_append, e] at h
 have h4 : (4 + (frW x.f3).length) * (1000000 + 1) ≤ 9 * (1000000 + 1) := Nat.mul_le_mul_right _ (by omega)
 unfold seaL
 omega
theorem feaL_le {x : S43} (h : okF x) : (feaL x).length ≤ 10000000 := by
 obtain ⟨h0, h1, h2, h3⟩ := h
 obtain ⟨f1, f2⟩ := frW_le h3
 have n1 := numB_le h1; have n2 := polB_le h2
 have h := lineL_le (feaW x ++ frW x.f3) 1000000 (fun y hy => by
  rcases List.mem_append.1 hy with hy | hy
  ·simp only [feaW, List.mem_cons, List.not_mem_nil, or_false] at hy
   rcases hy with rfl | rfl | rfl | rfl
   ·decide
   ·exact h0
   ·omega
   ·omega
  ·have := f1 y hy; omega)
 have e : (feaW x).length = 4 := rfl
 rw [List.length_append, e] at h
 have h4 : (4 + (frW x.f3).length) * (1000000 + 1) ≤ 9 * (1000000 + 1) := Nat.mul_le_mul_right _ (by omega)
 unfold feaL
 omega
theorem flat_le {α : Type} (f : α → List UInt8) (K : Nat) : ∀ (l : List α), (∀ x ∈ l, (f x).length ≤ K) → (l.map f).flatten.length ≤ l.length * K
 | [], _ => by simp
 | x :: l, h => by
  have h1 := flat_le f K l (fun y hy => h y (by simp [hy]))
  have h2 := h x (by simp)
  simp only [List.map_cons, List.flatten_cons, List.length_append, List.length_cons]
  rw [Nat.add_mul]
  omega
theorem topL_le {fr : Int} (h : inI fr) : (topL fr).length ≤ 100 := by
 have n1 := numB_le h
 have h1 := lineL_le [⟨#[99, 97, 116, 97, 108, 111, 103, 117, 101]⟩] 9 (by intro x hx; rw [List.mem_singleton.1 hx]; decide)
 have h2 := lineL_le [⟨#[102, 114, 101, 101]⟩, numB fr] 21 (by
  intro x hx
  simp only [List.mem_cons, List.not_mem_nil, or_false] at hx
  rcases hx with rfl | rfl
  ·decide
  ·exact n1)
 unfold topL
 rw [List.length_append]
 simp only [List.length_cons, List.length_nil] at h1 h2
 omega
theorem R_words {W : World} {B : Nat} (ws : List ByteArray) (hB : B ≤ W.heap.size) (hn : ws.length ≤ 1000) : Kd.R Kd.string 9 (W.alloc (.cells (ws.map Value.string).toArray 9)) B (fun _ => True) (.slice (some ⟨W.heap.size, 0, none⟩) ws.length ws.length) ws := by
 refine ⟨fun _ _ => trivial, ws.map Value.string, ?_, ?_⟩
 ·have h2 := World.ownsRow_lit (base := B) (e := 9) (size := 1) W (ws.map Value.string).toArray ws.length hB (by unfold maxLen; omega) (by simp)
  show World.ownsRow _ B 9 1 _ ws.length _
  simpa using h2
 ·exact Kd.reps_scalar ws
structure PI (w W : World) (N : Nat) (c : Array Value) (l : List UInt8) (bs : List (Nat × Obj)) : Prop where
 P : IsP (N + 1) (N + 1) l W
 B : Below w.heap.size w W
 Z : w.heap.size = N
 C : W.heap[N]? = some (.cells c 26 (0, 0))
 H : ∀ q ∈ bs, W.heap[q.1]? = some q.2
 T : ∀ q ∈ bs, q.1 ≠ N + 1 ∧ ∃ cs t, q.2 = .cells cs t (0, 0) ∧ t ≠ 5 ∧ t ≠ 9
section
variable {w W : World} {N : Nat} {c : Array Value} {l : List UInt8} {bs : List (Nat × Obj)}
theorem PI.lt (h : PI w W N c l bs) : N + 1 < W.heap.size := h.P.lt
theorem PI.step {W' : World} (h : PI w W N c l bs) (hb : Below W.heap.size W W') : PI w W' N c l bs := ⟨h.P.below hb, below_step h.B hb, h.Z, blk_below h.C hb, fun q hq => blk_below (h.H q hq) hb, h.T⟩
theorem PI.drew (h : PI w W N c l bs) : PI w W.drew N c l bs := h.step (below_drew (Below.refl _ _))
theorem PI.alloc (h : PI w W N c l bs) (o : Obj) : PI w (W.alloc o) N c l bs := h.step (below_alloc (Below.refl _ _) o)
theorem PI.wrote {W' : World} {l' : List UInt8} (h : PI w W N c l bs) (hP : IsP (N + 1) (N + 1) l' W') (hB : Below (N + 1) W W') (hO : Oth (N + 1) W W') : PI w W' N c l' bs :=
 ⟨hP, h.B.trans (hB.mono (by have := h.Z; omega)), h.Z, (hB.block N (by omega)).trans h.C, fun q hq => by
  obtain ⟨h1, cs, t, h2, h3, h4⟩ := h.T q hq
  have h5 := h.H q hq
  rw [h2] at h5 ⊢
  exact hO q.1 cs t h1 h3 h4 h5, h.T⟩
theorem PI.less (h : PI w W N c l bs) : PI w W N c l [] := ⟨h.P, h.B, h.Z, h.C, fun q hq => by simp at hq, fun q hq => by simp at hq⟩
theorem PI.has {b : Nat} {o : Obj} (h : PI w W N c l bs) (hb : (b, o) ∈ bs) : W.heap[b]? = some o := h.H (b, o) hb
theorem PI.new (h : PI w W N c l []) (cs : Array Value) (t : TypeId) (h1 : t ≠ 5) (h2 : t ≠ 9) : PI w (W.alloc (.cells cs t)) N c l [(W.heap.size, .cells cs t)] :=
 ⟨(h.alloc _).P, (h.alloc _).B, h.Z, (h.alloc _).C, fun q hq => by obtain rfl := List.mem_singleton.1 hq; exact blk_new W _, fun q hq => by obtain rfl := List.mem_singleton.1 hq; exact ⟨Nat.ne_of_gt h.lt, cs, t, rfl, h1, h2⟩⟩
theorem PI.pol (h : PI w W N c l bs) (hT : Tabs w) (k : Nat) {v : ByteArray} (hv : tPols[k]? = some v) : W.cell? ⟨0, k, none⟩ = some (.string v) := by
 rw [(hT.below h.B).pols.cell k, List.getElem?_map, hv]
 rfl
theorem PI.num (h : PI w W N c l bs) (hT : Tabs w) (n : Int) (hn : inI n) : Calls Tryd.prog 30 #[.int .i64 n] W fun e w' => e = .returned (.string (numB n)) ∧ PI w w' N c l bs :=
 (num_any W n hn (hT.below h.B)).mono fun e w' ⟨he, hb⟩ => ⟨he, h.step hb⟩
theorem PI.line {ws : List ByteArray} {cs : Array Value} {n b : Nat} (h : PI w W N c l bs) (hz : W.heap.size = b) (hn : ws.length = n) (hn1 : n ≤ 1000) (hcs : (ws.map Value.string).toArray = cs) (hlen : l.length + (lineL ws).length ≤ 140737488355328) :
  Calls Tryd.prog 29 #[.pointer (some ⟨N + 1, 0, none⟩), .slice (some ⟨b, 0, none⟩) n n] (W.alloc (.cells cs 9)) fun e w' => e = .returned (.tuple #[]) ∧ PI w w' N c (l ++ lineL ws) bs := by
 subst hz; subst hn; subst hcs
 have h2 := h.alloc (.cells (ws.map Value.string).toArray 9)
 have hb := blk_new W (.cells (ws.map Value.string).toArray 9)
 refine (line_any (N + 1) (N + 1) _ l ws W.heap.size ws.length ws.length h2.P (Nat.le_of_lt h2.lt) rfl (Nat.le_refl _) (blk_lt hb) (fun j x hx => ?_) hlen (by omega)).mono fun e w' ⟨he, hP, hB, hO⟩ => ⟨he, h2.wrote hP hB hO⟩
 rw [blk_cell hb j]
 simp [hx]
theorem PI.anch {ws : List ByteArray} {cs : Array Value} {n b : Nat} (h : PI w W N c l bs) (hT : Tabs w) (a : S39) (ha : inA a) (hz : W.heap.size = b) (hn : ws.length = n) (hn1 : n ≤ 1000) (hcs : (ws.map Value.string).toArray = cs) (hlen : l.length + (lineL (ws ++ frW a)).length ≤ 140737488355328) :
  Calls Tryd.prog 31 #[.pointer (some ⟨N + 1, 0, none⟩), .agg #[.int .i64 a.f0, .int .i64 a.f1, .int .i64 a.f2, .int .i64 a.f3, .int .i64 a.f4, .int .i64 a.f5], .slice (some ⟨b, 0, none⟩) n n] (W.alloc (.cells cs 9)) fun e w' => e = .returned (.tuple #[]) ∧ PI w w' N c (l ++ lineL (ws ++ frW a)) bs := by
 subst hz; subst hn; subst hcs
 have h2 := h.alloc (.cells (ws.map Value.string).toArray 9)
 exact (anchored_any (N + 1) (N + 1) _ l ws _ a h2.P (Nat.le_of_lt h2.lt) ha (hT.below h2.B) (R_words ws (Nat.le_of_lt h.lt) hn1) hn1 hlen).mono fun e w' ⟨he, hP, hB, hO⟩ => ⟨he, h2.wrote hP hB hO⟩
end
theorem flat_take {α : Type} (f : α → List UInt8) (z : α) {l : List α} {i : Nat} (h : i < l.length) : ((l.take i).map f).flatten ++ f (l.getD i z) = ((l.take (i + 1)).map f).flatten := by
 rw [List.take_succ_eq_append_getElem h, List.map_append, List.flatten_append]
 have e : l.getD i z = l[i] := by simp [List.getD, List.getElem?_eq_getElem h]
 rw [e]
 simp only [List.map_cons, List.map_nil, List.flatten_cons, List.flatten_nil, List.append_nil]
theorem wNn (n : Nat) (h : n ≤ 4611686018427387904) : wrap64 ((n : Int) + 1) = ((n + 1 : Nat) : Int) := by unfold wrap64; omega
theorem getD_mem {α : Type} (z : α) {l : List α} {i : Nat} (h : i < l.length) : l.getD i z ∈ l := by
 simp [List.getD, List.getElem?_eq_getElem h]
theorem okS_le {fr : Int} {ls : List S41} {lf : List S43} (h : okC fr ls lf) {i : Nat} (hi : i < ls.length) {x : S41} (hx : x ∈ ls) : (topL fr ++ ((ls.take i).map seaL).flatten).length + (lineL (seaW x ++ frW x.f3)).length ≤ 140737488355328 := by
 obtain ⟨h1, h2, h3, h4, h5⟩ := h
 have a1 := topL_le h1
 have a2 := flat_le seaL 10000000 (ls.take i) (fun y hy => seaL_le (h4 y (List.mem_of_mem_take hy)))
 have a3 := seaL_le (h4 x hx)
 unfold seaL at a3
 have a4 : (ls.take i).length ≤ 1000000 := by rw [List.length_take]; omega
 have a5 : (ls.take i).length * 10000000 ≤ 1000000 * 10000000 := Nat.mul_le_mul_right _ a4
 rw [List.length_append]
 omega
theorem okF_le {fr : Int} {ls : List S41} {lf : List S43} (h : okC fr ls lf) {i : Nat} (hi : i < lf.length) {x : S43} (hx : x ∈ lf) : (topL fr ++ (ls.map seaL).flatten ++ ((lf.take i).map feaL).flatten).length + (lineL (feaW x ++ frW x.f3)).length ≤ 140737488355328 := by
 obtain ⟨h1, h2, h3, h4, h5⟩ := h
 have a1 := topL_le h1
 have a2 := flat_le seaL 10000000 ls (fun y hy => seaL_le (h4 y hy))
 have a6 := flat_le feaL 10000000 (lf.take i) (fun y hy => feaL_le (h5 y (List.mem_of_mem_take hy)))
 have a3 := feaL_le (h5 x hx)
 unfold feaL at a3
 have a4 : (lf.take i).length ≤ 1000000 := by rw [List.length_take]; omega
 have a5 : (lf.take i).length * 10000000 ≤ 1000000 * 10000000 := Nat.mul_le_mul_right _ a4
 have a7 : ls.length * 10000000 ≤ 1000000 * 10000000 := Nat.mul_le_mul_right _ h2
 rw [List.length_append, List.length_append]
 omega
theorem okE_le {fr : Int} {ls : List S41} {lf : List S43} (h : okC fr ls lf) : (topL fr ++ (ls.map seaL).flatten ++ (lf.map feaL).flatten).length + endL.length ≤ 140737488355328 := by
 obtain ⟨h1, h2, h3, h4, h5⟩ := h
 have a1 := topL_le h1
 have a2 := flat_le seaL 10000000 ls (fun y hy => seaL_le (h4 y hy))
 have a6 := flat_le feaL 10000000 lf (fun y hy => feaL_le (h5 y hy))
 have a5 : lf.length * 10000000 ≤ 1000000 * 10000000 := Nat.mul_le_mul_right _ h3
 have a7 : ls.length * 10000000 ≤ 1000000 * 10000000 := Nat.mul_le_mul_right _ h2
 have a8 : endL.length = 4 := by rfl
 rw [List.length_append, List.length_append]
 omega
theorem print_any (w : World) (fr : Int) (A1 : Option Addr) (c1 : Nat) (ls : List S41) (A2 : Option Addr) (c2 : Nat) (lf : List S43) (hT : Tabs w) (h1 : Kd.C k41 w A1 ls.length ls) (h2 : Kd.C k43 w A2 lf.length lf) (hok : okC fr ls lf) :
  Calls Tryd.prog 14 #[.agg #[.int .i64 fr, .slice A1 ls.length c1, .slice A2 lf.length c2]] w fun e w' => e = .returned (.string ⟨(catT fr ls lf).toArray⟩) ∧ Below w.heap.size w w' := by
 obtain ⟨N, hN⟩ : ∃ N, N = w.heap.size := ⟨_, rfl⟩
 obtain ⟨cc, hcc⟩ : ∃ cc : Array Value, cc = #[.int .i64 fr, .slice A1 ls.length c1, .slice A2 lf.length c2] := ⟨_, rfl⟩
 have hP : PI w ((w.alloc (.cells #[.int .i64 fr, .slice A1 ls.length c1, .slice A2 lf.length c2] 26)).alloc (.cells #[.pointer none, .slice none 0 0] 69)) N cc [] [] := by
  have hz : (w.alloc (.cells #[.int .i64 fr, .slice A1 ls.length c1, .slice A2 lf.length c2] 26)).heap.size = N + 1 := by rw [World.size_alloc, hN]
  refine ⟨.inl ⟨Nat.le_refl _, .slice none 0 0, ?_, World.ownsRow_nil _ _ _ _, by simp [Value.ownBlock]⟩, below_alloc (below_alloc (Below.refl _ _) _) _, hN.symm, ?_, fun q hq => by simp at hq, fun q hq => by simp at hq⟩
  ·have h := blk_new (w.alloc (.cells #[.int .i64 fr, .slice A1 ls.length c1, .slice A2 lf.length c2] 26)) (.cells #[.pointer none, .slice none 0 0] 69)
   rw [hz] at h
   exact h
  ·rw [hN, hcc]; exact blk_alloc (blk_new w _) _
 have HP := Aside0.mk hP
 have HN := Aside0.mk hN
 have HCC := Aside0.mk hcc
 have HT := Aside0.mk hT
 have H1 := Aside0.mk h1
 have H2 := Aside0.mk h2
 have HK := Aside0.mk hok
 clear hP hcc hT h1 h2 hok
 go_enter Tryd.func14, Tryd.ntmps14
 go_upto_region 2 with fail
 rw [← hN]
 generalize World.alloc _ _ = w1 at HP ⊢
 clear hN
 have HT1 := Aside0.mk (topL_le HK.out.1)
 go_wp2_with fail
 refine Calls.mono (HP.out.line (ws := [⟨#[99, 97, 116, 97, 108, 111, 103, 117, 101]⟩]) (n := 1) rfl rfl (by decide) rfl (by decide +kernel)) ?_
 rintro e w2 ⟨rfl, h⟩
 have HP2 := Aside0.mk h
 clear HP h
 have hc0 : w2.cell? ⟨N, 0, none⟩ = some (.int .i64 fr) := by rw [blk_cell HP2.out.C 0, HCC.out]; rfl
 go_wp2_with fail
 refine Calls.mono (HP2.out.num HT.out fr HK.out.1) ?_
 rintro e w3 ⟨rfl, h⟩
 have HP3 := Aside0.mk h
 clear HP2 h hc0
 go_wp2_with fail
 refine Calls.mono (HP3.out.line (ws := [⟨#[102, 114, 101, 101]⟩, numB fr]) (n := 2) rfl rfl (by decide) rfl (by have h := HT1.out; unfold topL at h; rw [List.length_append] at h; simp only [List.nil_append]; omega)) ?_
 rintro e w4 ⟨rfl, h⟩
 have HP4 := Aside0.mk (show PI w w4 N cc (topL fr) [] from h)
 clear HP3 h
 have hc1 : w4.cell? ⟨N, 1, none⟩ = some (.slice A1 ls.length c1) := by rw [blk_cell HP4.out.C 1, HCC.out]; rfl
 go_wp2_with fail
 go_loopg [18] ls.length (fun kq v18 w' => ∃ i : Nat, v18 = .int .i64 i ∧ Aside0 (i + kq = ls.length) ∧ Aside0 (PI w w' N cc (topL fr ++ ((ls.take i).map seaL).flatten) []))
 case atStart => exact ⟨0, rfl, ⟨by omega⟩, ⟨by simpa using HP4.out⟩⟩
 case round =>
 obtain ⟨i, rfl, HI, HP⟩ := hrel
 clear HP4 hc1
 by_cases hi : i < ls.length
 ·obtain ⟨k1, rfl⟩ : ∃ m, gk = m + 1 := ⟨gk - 1, by have := HI.out; omega⟩
  have d1 : decide ((i : Int) < (ls.length : Int)) = true := decide_eq_true (by omega)
  have d2 : decide (i < ls.length) = true := decide_eq_true hi
  have HLE := Aside0.mk (okS_le HK.out hi (getD_mem z41 hi))
  have HOK := Aside0.mk (HK.out.2.2.2.1 _ (getD_mem z41 hi))
  have HFT := Aside0.mk (flat_take seaL z41 hi)
  obtain ⟨ad, rfl, y0, y1, y2, y3, y4, y5, y6, y7, y8⟩ := at_T41 (Kd.C_below H1.out HP.out.B) (i : Int) (by omega) (by omega)
  have hx0 : rd_T41 ls (i : Int) = ls.getD i z41 := by unfold rd_T41; rw [Int.toNat_natCast]
  rw [hx0] at y0 y1 y2 y3 y4 y5 y6 y7 y8
  obtain ⟨x, hx⟩ : ∃ x, x = ls.getD i z41 := ⟨_, rfl⟩
  rw [← hx] at y0 y1 y2 y3 y4 y5 y6 y7 y8 HLE HOK HFT
  simp only [Int.toNat_natCast] at y0 y1 y2 y3 y4 y5 y6 y7 y8
  obtain ⟨⟨e0, e1, e2, e3, e4, e5, e6, e7, e8⟩, f0, f1, f2, f3, f4, f5, f6, f7, f8⟩ := Q.nine (blk_new wr (.cells #[.string ⟨#[]⟩, .int .i64 0, .int .i64 0, .int .i64 0, .int .i64 0, .int .i64 0, .int .i64 0, .int .i64 0, .int .i64 0] 41))
  have HX1 := Aside0.mk HOK.out.2.1
  have HX2 := Aside0.mk HOK.out.2.2.1
  have HX3 := Aside0.mk HOK.out.2.2.2
  clear hx hx0 HOK
  go_upto_region 7 with fail
  have hQ := HP.out.new #[.string x.f0, .int .i64 x.f1, .int .i64 x.f2, .int .i64 x.f3.f0, .int .i64 x.f3.f1, .int .i64 x.f3.f2, .int .i64 x.f3.f3, .int .i64 x.f3.f4, .int .i64 x.f3.f5] 41 (by decide) (by decide)
  generalize World.alloc wr _ = wq at hQ ⊢
  generalize wr.heap.size = q at hQ ⊢
  have HQ := Aside0.mk hQ
  clear HP hQ y0 y1 y2 y3 y4 y5 y6 y7 y8 e0 e1 e2 e3 e4 e5 e6 e7 e8 f0 f1 f2 f3 f4 f5 f6 f7 f8
  go_region_held3 (fun w' => (w'.cell? ⟨q, 0, none⟩ = some (.string x.f0) ∧ w'.cell? ⟨q, 1, none⟩ = some (.int .i64 x.f1) ∧ w'.cell? ⟨q, 2, none⟩ = some (.int .i64 x.f2) ∧ w'.cell? ⟨q, 3, none⟩ = some (.int .i64 x.f3.f0) ∧ w'.cell? ⟨q, 4, none⟩ = some (.int .i64 x.f3.f1) ∧ w'.cell? ⟨q, 5, none⟩ = some (.int .i64 x.f3.f2) ∧ w'.cell? ⟨q, 6, none⟩ = some (.int .i64 x.f3.f3) ∧ w'.cell? ⟨q, 7, none⟩ = some (.int .i64 x.f3.f4) ∧ w'.cell? ⟨q, 8, none⟩ = some (.int .i64 x.f3.f5))) (first | (with_reducible exact (Q.nine (HQ.out.has (List.Mem.head _))).1) | (with_reducible exact (Q.nine (HQ.out.drew.has (List.Mem.head _))).1) | (with_reducible exact (Q.nine ((HQ.out.alloc _).has (List.Mem.head _))).1) | go_keep) (first | (go_at_call 30; (first | (with_reducible refine Calls.mono (HQ.out.drew.num HT.out x.f1 HX1.out) ?_) | (with_reducible refine Calls.mono (HQ.out.num HT.out x.f2 HX2.out) ?_)); rintro e w5 ⟨rfl, h⟩; have n0_ := Aside0.mk h; clear HQ h; have HQ := n0_; clear n0_) | (go_at_call 31; (with_reducible refine Calls.mono (HQ.out.anch (ws := seaW x) HT.out x.f3 HX3.out rfl rfl (by decide) rfl HLE.out) ?_); rintro e w5 ⟨rfl, h⟩; have n0_ := Aside0.mk h; clear HQ h; have HQ := n0_; clear n0_))
  go_wp2_with fail
  have hil : ls.length ≤ 1000000 := HK.out.2.1
  go_roundg k1
  case measure => omega
  case rel =>
   refine ⟨i + 1, (by first | rw [i64_w, wNn i (by omega)] | rw [wNn i (by omega)] | rfl | (simp; done)), ⟨by have := HI.out; omega⟩, ⟨?_⟩⟩
   have h := HQ.out.less
   rw [List.append_assoc, show lineL (seaW x ++ frW x.f3) = seaL x from rfl, HFT.out] at h
   exact h
 ·obtain rfl : i = ls.length := by have := HI.out; omega
  have HP5 := Aside0.mk (show PI w wr N cc (topL fr ++ (ls.map seaL).flatten) [] from by have h := HP.out; rw [List.take_length] at h; exact h)
  clear HP HI hi
  obtain ⟨w6, rfl⟩ : ∃ W, W = wr := ⟨wr, rfl⟩
  have hc2 : w6.cell? ⟨N, 2, none⟩ = some (.slice A2 lf.length c2) := by rw [blk_cell HP5.out.C 2, HCC.out]; rfl
  have hil : lf.length ≤ 1000000 := HK.out.2.2.1
  go_wp2_with fail
  go_loopg [38] lf.length (fun kq v38 w' => ∃ i : Nat, v38 = .int .i64 i ∧ Aside0 (i + kq = lf.length) ∧ Aside0 (PI w w' N cc (topL fr ++ (ls.map seaL).flatten ++ ((lf.take i).map feaL).flatten) []))
  case atStart => exact ⟨0, rfl, ⟨by omega⟩, ⟨by simpa using HP5.out⟩⟩
  case round =>
  obtain ⟨i, rfl, HI, HP⟩ := hrel
  clear HP5 hc2
  by_cases hi : i < lf.length
  ·obtain ⟨k1, rfl⟩ : ∃ m, gk = m + 1 := ⟨gk - 1, by have := HI.out; omega⟩
   have d1 : decide ((i : Int) < (lf.length : Int)) = true := decide_eq_true (by omega)
   have d2 : decide (i < lf.length) = true := decide_eq_true hi
   have HLE := Aside0.mk (okF_le HK.out hi (getD_mem z43 hi))
   have HOK := Aside0.mk (HK.out.2.2.2.2 _ (getD_mem z43 hi))
   have HFT := Aside0.mk (flat_take feaL z43 hi)
   obtain ⟨ad, rfl, y0, y1, y2, y3, y4, y5, y6, y7, y8⟩ := at_T43 (Kd.C_below H2.out HP.out.B) (i : Int) (by omega) (by omega)
   have hx0 : rd_T43 lf (i : Int) = lf.getD i z43 := by unfold rd_T43; rw [Int.toNat_natCast]
   rw [hx0] at y0 y1 y2 y3 y4 y5 y6 y7 y8
   obtain ⟨x, hx⟩ : ∃ x, x = lf.getD i z43 := ⟨_, rfl⟩
   rw [← hx] at y0 y1 y2 y3 y4 y5 y6 y7 y8 HLE HOK HFT
   simp only [Int.toNat_natCast] at y0 y1 y2 y3 y4 y5 y6 y7 y8
   obtain ⟨⟨e0, e1, e2, e3, e4, e5, e6, e7, e8⟩, f0, f1, f2, f3, f4, f5, f6, f7, f8⟩ := Q.nine (blk_new wr (.cells #[.string ⟨#[]⟩, .int .i64 0, .int .i64 0, .int .i64 0, .int .i64 0, .int .i64 0, .int .i64 0, .int .i64 0, .int .i64 0] 43))
   have HX1 := Aside0.mk HOK.out.2.1
   have HX3 := Aside0.mk HOK.out.2.2.2
   have hp := HOK.out.2.2.1
   clear hx hx0 HOK
   rcases (show x.f2 = 1 ∨ x.f2 = 2 ∨ x.f2 = 3 from by omega) with hp | hp | hp
   ·have hw0 : IntKind.i64.wrap 0 = 0 := by rw [IntKind.wrap_i64]; rfl
    have e : feaW x = [⟨#[102, 101, 97, 115, 116]⟩, x.f0, numB x.f1, ⟨#[116, 114, 97, 110, 115, 102, 101, 114]⟩] := by unfold feaW; rw [hp]; rfl
    rw [e] at HLE
    rw [show feaL x = lineL ([⟨#[102, 101, 97, 115, 116]⟩, x.f0, numB x.f1, ⟨#[116, 114, 97, 110, 115, 102, 101, 114]⟩] ++ frW x.f3) from by unfold feaL; rw [e]] at HFT
    rw [hp] at y2
    clear e hp
    go_upto_region 12 with fail
    have hQ := HP.out.new #[.string x.f0, .int .i64 x.f1, .int .i64 1, .int .i64 x.f3.f0, .int .i64 x.f3.f1, .int .i64 x.f3.f2, .int .i64 x.f3.f3, .int .i64 x.f3.f4, .int .i64 x.f3.f5] 43 (by decide) (by decide)
    generalize World.alloc wr _ = wq at hQ ⊢
    generalize wr.heap.size = q at hQ ⊢
    have HQ := Aside0.mk hQ
    clear HP hQ y0 y1 y2 y3 y4 y5 y6 y7 y8 e0 e1 e2 e3 e4 e5 e6 e7 e8 f0 f1 f2 f3 f4 f5 f6 f7 f8
    go_region_held3 (fun w' => (w'.cell? ⟨q, 0, none⟩ = some (.string x.f0) ∧ w'.cell? ⟨q, 1, none⟩ = some (.int .i64 x.f1) ∧ w'.cell? ⟨q, 2, none⟩ = some (.int .i64 1) ∧ w'.cell? ⟨q, 3, none⟩ = some (.int .i64 x.f3.f0) ∧ w'.cell? ⟨q, 4, none⟩ = some (.int .i64 x.f3.f1) ∧ w'.cell? ⟨q, 5, none⟩ = some (.int .i64 x.f3.f2) ∧ w'.cell? ⟨q, 6, none⟩ = some (.int .i64 x.f3.f3) ∧ w'.cell? ⟨q, 7, none⟩ = some (.int .i64 x.f3.f4) ∧ w'.cell? ⟨q, 8, none⟩ = some (.int .i64 x.f3.f5)) ∧ w'.cell? ⟨0, 0, none⟩ = some (.string ⟨#[116, 114, 97, 110, 115, 102, 101, 114]⟩)) (first | (with_reducible exact ⟨(Q.nine (HQ.out.has (List.Mem.head _))).1, HQ.out.pol HT.out 0 rfl⟩) | (with_reducible exact ⟨(Q.nine (HQ.out.drew.has (List.Mem.head _))).1, HQ.out.drew.pol HT.out 0 rfl⟩) | (with_reducible exact ⟨(Q.nine ((HQ.out.alloc _).has (List.Mem.head _))).1, (HQ.out.alloc _).pol HT.out 0 rfl⟩) | go_keep) (first | (go_at_call 30; (with_reducible refine Calls.mono (HQ.out.drew.num HT.out x.f1 HX1.out) ?_); rintro e w5 ⟨rfl, h⟩; have n0_ := Aside0.mk h; clear HQ h; have HQ := n0_; clear n0_) | (go_at_call 31; (with_reducible refine Calls.mono (HQ.out.anch (ws := [⟨#[102, 101, 97, 115, 116]⟩, x.f0, numB x.f1, ⟨#[116, 114, 97, 110, 115, 102, 101, 114]⟩]) HT.out x.f3 HX3.out rfl rfl (by decide) rfl HLE.out) ?_); rintro e w5 ⟨rfl, h⟩; have n0_ := Aside0.mk h; clear HQ h; have HQ := n0_; clear n0_))
    all_goals (go_wp2_with fail; go_roundg k1)
    all_goals (first | omega | (refine ⟨i + 1, (by first | rw [i64_w, wNn i (by omega)] | rw [wNn i (by omega)] | rfl | (simp; done)), ⟨by have := HI.out; omega⟩, ⟨?_⟩⟩; have h := HQ.out.less; rw [List.append_assoc, HFT.out] at h; exact h))
   ·have hw0 : IntKind.i64.wrap 1 = 1 := by rw [IntKind.wrap_i64]; rfl
    have e : feaW x = [⟨#[102, 101, 97, 115, 116]⟩, x.f0, numB x.f1, ⟨#[99, 111, 109, 109, 101, 109, 111, 114, 97, 116, 101]⟩] := by unfold feaW; rw [hp]; rfl
    rw [e] at HLE
    rw [show feaL x = lineL ([⟨#[102, 101, 97, 115, 116]⟩, x.f0, numB x.f1, ⟨#[99, 111, 109, 109, 101, 109, 111, 114, 97, 116, 101]⟩] ++ frW x.f3) from by unfold feaL; rw [e]] at HFT
    rw [hp] at y2
    clear e hp
    go_upto_region 12 with fail
    have hQ := HP.out.new #[.string x.f0, .int .i64 x.f1, .int .i64 2, .int .i64 x.f3.f0, .int .i64 x.f3.f1, .int .i64 x.f3.f2, .int .i64 x.f3.f3, .int .i64 x.f3.f4, .int .i64 x.f3.f5] 43 (by decide) (by decide)
    generalize World.alloc wr _ = wq at hQ ⊢
    generalize wr.heap.size = q at hQ ⊢
    have HQ := Aside0.mk hQ
    clear HP hQ y0 y1 y2 y3 y4 y5 y6 y7 y8 e0 e1 e2 e3 e4 e5 e6 e7 e8 f0 f1 f2 f3 f4 f5 f6 f7 f8
    go_region_held3 (fun w' => (w'.cell? ⟨q, 0, none⟩ = some (.string x.f0) ∧ w'.cell? ⟨q, 1, none⟩ = some (.int .i64 x.f1) ∧ w'.cell? ⟨q, 2, none⟩ = some (.int .i64 2) ∧ w'.cell? ⟨q, 3, none⟩ = some (.int .i64 x.f3.f0) ∧ w'.cell? ⟨q, 4, none⟩ = some (.int .i64 x.f3.f1) ∧ w'.cell? ⟨q, 5, none⟩ = some (.int .i64 x.f3.f2) ∧ w'.cell? ⟨q, 6, none⟩ = some (.int .i64 x.f3.f3) ∧ w'.cell? ⟨q, 7, none⟩ = some (.int .i64 x.f3.f4) ∧ w'.cell? ⟨q, 8, none⟩ = some (.int .i64 x.f3.f5)) ∧ w'.cell? ⟨0, 1, none⟩ = some (.string ⟨#[99, 111, 109, 109, 101, 109, 111, 114, 97, 116, 101]⟩)) (first | (with_reducible exact ⟨(Q.nine (HQ.out.has (List.Mem.head _))).1, HQ.out.pol HT.out 1 rfl⟩) | (with_reducible exact ⟨(Q.nine (HQ.out.drew.has (List.Mem.head _))).1, HQ.out.drew.pol HT.out 1 rfl⟩) | (with_reducible exact ⟨(Q.nine ((HQ.out.alloc _).has (List.Mem.head _))).1, (HQ.out.alloc _).pol HT.out 1 rfl⟩) | go_keep) (first | (go_at_call 30; (with_reducible refine Calls.mono (HQ.out.drew.num HT.out x.f1 HX1.out) ?_); rintro e w5 ⟨rfl, h⟩; have n0_ := Aside0.mk h; clear HQ h; have HQ := n0_; clear n0_) | (go_at_call 31; (with_reducible refine Calls.mono (HQ.out.anch (ws := [⟨#[102, 101, 97, 115, 116]⟩, x.f0, numB x.f1, ⟨#[99, 111, 109, 109, 101, 109, 111, 114, 97, 116, 101]⟩]) HT.out x.f3 HX3.out rfl rfl (by decide) rfl HLE.out) ?_); rintro e w5 ⟨rfl, h⟩; have n0_ := Aside0.mk h; clear HQ h; have HQ := n0_; clear n0_))
    all_goals (go_wp2_with fail; go_roundg k1)
    all_goals (first | omega | (refine ⟨i + 1, (by first | rw [i64_w, wNn i (by omega)] | rw [wNn i (by omega)] | rfl | (simp; done)), ⟨by have := HI.out; omega⟩, ⟨?_⟩⟩; have h := HQ.out.less; rw [List.append_assoc, HFT.out] at h; exact h))
   ·have hw0 : IntKind.i64.wrap 2 = 2 := by rw [IntKind.wrap_i64]; rfl
    have e : feaW x = [⟨#[102, 101, 97, 115, 116]⟩, x.f0, numB x.f1, ⟨#[111, 109, 105, 116]⟩] := by unfold feaW; rw [hp]; rfl
    rw [e] at HLE
    rw [show feaL x = lineL ([⟨#[102, 101, 97, 115, 116]⟩, x.f0, numB x.f1, ⟨#[111, 109, 105, 116]⟩] ++ frW x.f3) from by unfold feaL; rw [e]] at HFT
    rw [hp] at y2
    clear e hp
    go_upto_region 12 with fail
    have hQ := HP.out.new #[.string x.f0, .int .i64 x.f1, .int .i64 3, .int .i64 x.f3.f0, .int .i64 x.f3.f1, .int .i64 x.f3.f2, .int .i64 x.f3.f3, .int .i64 x.f3.f4, .int .i64 x.f3.f5] 43 (by decide) (by decide)
    generalize World.alloc wr _ = wq at hQ ⊢
    generalize wr.heap.size = q at hQ ⊢
    have HQ := Aside0.mk hQ
    clear HP hQ y0 y1 y2 y3 y4 y5 y6 y7 y8 e0 e1 e2 e3 e4 e5 e6 e7 e8 f0 f1 f2 f3 f4 f5 f6 f7 f8
    go_region_held3 (fun w' => (w'.cell? ⟨q, 0, none⟩ = some (.string x.f0) ∧ w'.cell? ⟨q, 1, none⟩ = some (.int .i64 x.f1) ∧ w'.cell? ⟨q, 2, none⟩ = some (.int .i64 3) ∧ w'.cell? ⟨q, 3, none⟩ = some (.int .i64 x.f3.f0) ∧ w'.cell? ⟨q, 4, none⟩ = some (.int .i64 x.f3.f1) ∧ w'.cell? ⟨q, 5, none⟩ = some (.int .i64 x.f3.f2) ∧ w'.cell? ⟨q, 6, none⟩ = some (.int .i64 x.f3.f3) ∧ w'.cell? ⟨q, 7, none⟩ = some (.int .i64 x.f3.f4) ∧ w'.cell? ⟨q, 8, none⟩ = some (.int .i64 x.f3.f5)) ∧ w'.cell? ⟨0, 2, none⟩ = some (.string ⟨#[111, 109, 105, 116]⟩)) (first | (with_reducible exact ⟨(Q.nine (HQ.out.has (List.Mem.head _))).1, HQ.out.pol HT.out 2 rfl⟩) | (with_reducible exact ⟨(Q.nine (HQ.out.drew.has (List.Mem.head _))).1, HQ.out.drew.pol HT.out 2 rfl⟩) | (with_reducible exact ⟨(Q.nine ((HQ.out.alloc _).has (List.Mem.head _))).1, (HQ.out.alloc _).pol HT.out 2 rfl⟩) | go_keep) (first | (go_at_call 30; (with_reducible refine Calls.mono (HQ.out.drew.num HT.out x.f1 HX1.out) ?_); rintro e w5 ⟨rfl, h⟩; have n0_ := Aside0.mk h; clear HQ h; have HQ := n0_; clear n0_) | (go_at_call 31; (with_reducible refine Calls.mono (HQ.out.anch (ws := [⟨#[102, 101, 97, 115, 116]⟩, x.f0, numB x.f1, ⟨#[111, 109, 105, 116]⟩]) HT.out x.f3 HX3.out rfl rfl (by decide) rfl HLE.out) ?_); rintro e w5 ⟨rfl, h⟩; have n0_ := Aside0.mk h; clear HQ h; have HQ := n0_; clear n0_))
    all_goals (go_wp2_with fail; go_roundg k1)
    all_goals (first | omega | (refine ⟨i + 1, (by first | rw [i64_w, wNn i (by omega)] | rw [wNn i (by omega)] | rfl | (simp; done)), ⟨by have := HI.out; omega⟩, ⟨?_⟩⟩; have h := HQ.out.less; rw [List.append_assoc, HFT.out] at h; exact h))
  ·obtain rfl : i = lf.length := by have := HI.out; omega
   have HP6 := Aside0.mk (show PI w wr N cc (topL fr ++ (ls.map seaL).flatten ++ (lf.map feaL).flatten) [] from by have h := HP.out; rw [List.take_length] at h; exact h)
   clear HP HI hi
   go_wp2_with fail
   refine Calls.mono (HP6.out.line (ws := [⟨#[101, 110, 100]⟩]) (n := 1) rfl rfl (by decide) rfl (okE_le HK.out)) ?_
   rintro e w7 ⟨rfl, h⟩
   have HP7 := Aside0.mk (show PI w w7 N cc (catT fr ls lf) [] from h)
   clear HP6 h
   have HS := Aside0.mk (bld_string (N + 1) (N + 1) (catT fr ls lf) w7 HP7.out.P (by unfold catT endL lineL; simp))
   go_wp2_with fail
   refine Calls.mono HS.out ?_
   rintro e w8 ⟨rfl, h⟩
   have HB8 := Aside0.mk (HP7.out.B.trans (h.mono (by have := HP7.out.Z; omega)))
   clear HS h
   go_wp2_with fail
   go_ret
   exact ⟨rfl, HB8.out⟩
theorem cattext_Print.calls (a0_0 : Int) (A0_1 : Option Addr) (c0_1 : Nat) (l0_1 : List S41) (A0_2 : Option Addr) (c0_2 : Nat) (l0_2 : List S43) (r : ByteArray) (w : World) (hr0_1 : Kd.C k41 w A0_1 l0_1.length l0_1) (hc0_1 : l0_1.length ≤ c0_1) (hr0_2 : Kd.C k43 w A0_2 l0_2.length l0_2) (hc0_2 : l0_2.length ≤ c0_2) (hT : Tabs w) (h : cattext_Print.f a0_0 l0_1 l0_2 = some r) :
  Calls Tryd.prog 14 #[.agg #[.int .i64 a0_0, .slice A0_1 l0_1.length c0_1, .slice A0_2 l0_2.length c0_2]] w fun e w' => e = .returned (.string r) ∧ Below w.heap.size w w' := by
 unfold cattext_Print.f at h
 split at h
 ·rename_i hok
  obtain rfl := Option.some.inj h
  exact print_any w a0_0 A0_1 c0_1 l0_1 A0_2 c0_2 l0_2 hT hr0_1 hr0_2 hok
 ·exact absurd h (by simp)
end Go.Proofs.YtlfokdbnbmebiaaDoor.Q
end
section
namespace Go.Proofs.YtlfokdbnbmebiaaDoor.Q
open Go.RowKit Go.Proofs.YtlfokdbnbmebiaaDoorW.PrintWords Go.Proofs.YtlfokdbnbmebiaaDoorW.PrintLast Go.Proofs.YtlfokdbnbmebiaaDoorW.PrintMore
attribute [local go_sem] max2_int min2_int max_two min_two max_three min_three max_four min_four
section
attribute [local go_sem high] eqA41 eqA43
def computuslaw26_awake.f  : Option (Bool) := (cattext_Parse.f (⟨#[99, 97, 116, 97, 108, 111, 103, 117, 101, 10, 102, 114, 101, 101, 32, 55, 10, 115, 101, 97, 115, 111, 110, 32, 115, 32, 49, 32, 50, 32, 110, 116, 104, 32, 109, 111, 110, 100, 97, 121, 32, 45, 49, 32, 53, 32, 51, 49, 10, 102, 101, 97, 115, 116, 32, 102, 32, 51, 32, 111, 109, 105, 116, 32, 101, 97, 115, 116, 101, 114, 32, 52, 57, 10, 101, 110, 100, 10]⟩ : ByteArray)).bind fun bt102 => ((cattext_Parse.f (⟨#[99, 97, 116, 97, 108, 111, 103, 117, 101, 10, 102, 114, 101, 101, 32, 48, 48, 10, 101, 110, 100, 10]⟩ : ByteArray)).bind fun bt112 => ((cattext_Parse.f (⟨#[99, 97, 116, 97, 108, 111, 103, 117, 101, 10, 102, 114, 101, 101, 32, 48, 10, 101, 110, 100]⟩ : ByteArray)).bind fun bt122 => (if (bt102.2.1.length : Int) = 1 then (if (bt102.2.2.1.length : Int) = 1 then ((cattext_Print.f 0 ([] : List (S41)) ([] : List (S43))).bind fun t132 => (if t132.toList = ([99, 97, 116, 97, 108, 111, 103, 117, 101, 10, 102, 114, 101, 101, 32, 48, 10, 101, 110, 100, 10] : List UInt8) then (if bt102.1 = 7 then (if bt102.2.2.2.1 = 0 then (if bt102.2.2.2.2 = 0 then (if 0 < (bt102.2.1.length : Int) then (if ((((rd_T41 bt102.2.1 0).f0).toList) == ([115] : List UInt8) && (((rd_T41 bt102.2.1 0).f1) == 1 && (((rd_T41 bt102.2.1 0).f2) == 2 && ((((rd_T41 bt102.2.1 0).f3.f0) == 3 && (((rd_T41 bt102.2.1 0).f3.f1) == 5 && (((rd_T41 bt102.2.1 0).f3.f2) == 31 && (((rd_T41 bt102.2.1 0).f3.f3) == 0 && (((rd_T41 bt102.2.1 0).f3.f4) == 1 && (((rd_T41 bt102.2.1 0).f3.f5) == (-1))))))))))) = true then (if 0 < (bt102.2.2.1.length : Int) then (if ((((rd_T43 bt102.2.2.1 0).f0).toList) == ([102] : List UInt8) && (((rd_T43 bt102.2.2.1 0).f1) == 3 && (((rd_T43 bt102.2.2.1 0).f2) == 3 && ((((rd_T43 bt102.2.2.1 0).f3.f0) == 2 && (((rd_T43 bt102.2.2.1 0).f3.f1) == 0 && (((rd_T43 bt102.2.2.1 0).f3.f2) == 0 && (((rd_T43 bt102.2.2.1 0).f3.f3) == 49 && (((rd_T43 bt102.2.2.1 0).f3.f4) == 0 && (((rd_T43 bt102.2.2.1 0).f3.f5) == 0)))))))))) = true then (if bt112.2.2.2.1 = 16 then (if bt112.2.2.2.2 = 6 then (if bt122.2.2.2.1 = 20 then (some (bt122.2.2.2.2 == 6)) else (none)) else (none)) else (none)) else (none)) else (none)) else (none)) else (none)) else (none)) else (none)) else (none)) else (none))) else (none)) else (none))))
theorem computuslaw26_awake.calls  (r : Bool) (w : World) (hT : Tabs w) (h : computuslaw26_awake.f  = some r) :
  Calls Tryd.prog 8 #[] w fun e w' => e = .returned (.bool r) ∧ Below w.heap.size w w' := by
 have HTAB := am_ hT
 clear hT
 have hu26 := Tryd.underlying26
 have hu41 := Tryd.underlying41
 have hu39 := Tryd.underlying39
 have hu43 := Tryd.underlying43
 have HB := am_ (Below.refl w.heap.size w)
 have H := h
 clear h
 unfold computuslaw26_awake.f at H
 obtain ⟨⟨t102, t103, t106, t109, t110⟩, A1, H⟩ := bs_ H
 dsimp only at H
 obtain ⟨⟨t112, t113, t116, t119, t120⟩, A2, H⟩ := bs_ H
 dsimp only at H
 obtain ⟨⟨t122, t123, t126, t129, t130⟩, A3, H⟩ := bs_ H
 dsimp only at H
 by_cases c4 : (t103.length : Int) = 1
 rotate_left
 ·rw [if_neg c4] at H
  exact absurd H (by simp)
 rw [if_pos c4] at H
 have c4b0 : ((t103.length : Int) == 1) = true := beq_iff_eq.mpr c4
 have c4b1 : ((t103.length : Int) != 1) = false := bne_eq_false_iff_eq.mpr c4
 clear c4
 by_cases c5 : (t106.length : Int) = 1
 rotate_left
 ·rw [if_neg c5] at H
  exact absurd H (by simp)
 rw [if_pos c5] at H
 have c5b0 : ((t106.length : Int) == 1) = true := beq_iff_eq.mpr c5
 have c5b1 : ((t106.length : Int) != 1) = false := bne_eq_false_iff_eq.mpr c5
 clear c5
 obtain ⟨t132, A6, H⟩ := bs_ H
 by_cases c7 : t132.toList = ([99, 97, 116, 97, 108, 111, 103, 117, 101, 10, 102, 114, 101, 101, 32, 48, 10, 101, 110, 100, 10] : List UInt8)
 rotate_left
 ·rw [if_neg c7] at H
  exact absurd H (by simp)
 rw [if_pos c7] at H
 have c7b0 : (t132.toList == ([99, 97, 116, 97, 108, 111, 103, 117, 101, 10, 102, 114, 101, 101, 32, 48, 10, 101, 110, 100, 10] : List UInt8)) = true := beq_iff_eq.mpr c7
 have c7b1 : (t132.toList != ([99, 97, 116, 97, 108, 111, 103, 117, 101, 10, 102, 114, 101, 101, 32, 48, 10, 101, 110, 100, 10] : List UInt8)) = false := bne_eq_false_iff_eq.mpr c7
 clear c7
 by_cases c8 : t102 = 7
 rotate_left
 ·rw [if_neg c8] at H
  exact absurd H (by simp)
 rw [if_pos c8] at H
 have c8b0 : (t102 == 7) = true := beq_iff_eq.mpr c8
 have c8b1 : (t102 != 7) = false := bne_eq_false_iff_eq.mpr c8
 clear c8
 by_cases c9 : t109 = 0
 rotate_left
 ·rw [if_neg c9] at H
  exact absurd H (by simp)
 rw [if_pos c9] at H
 have c9b0 : (t109 == 0) = true := beq_iff_eq.mpr c9
 have c9b1 : (t109 != 0) = false := bne_eq_false_iff_eq.mpr c9
 clear c9
 by_cases c10 : t110 = 0
 rotate_left
 ·rw [if_neg c10] at H
  exact absurd H (by simp)
 rw [if_pos c10] at H
 have c10b0 : (t110 == 0) = true := beq_iff_eq.mpr c10
 have c10b1 : (t110 != 0) = false := bne_eq_false_iff_eq.mpr c10
 clear c10
 by_cases c11 : 0 < (t103.length : Int)
 rotate_left
 ·rw [if_neg c11] at H
  exact absurd H (by simp)
 rw [if_pos c11] at H
 have c11b0 : decide (0 < (t103.length : Int)) = true := decide_eq_true c11
 have c11b1 : decide (0 < t103.length) = true := decide_eq_true (by omega)
 (try (have c11b6 : 0 < t103.length := of_decide_eq_true c11b1))
 clear c11
 by_cases c12 : ((((rd_T41 t103 0).f0).toList) == ([115] : List UInt8) && (((rd_T41 t103 0).f1) == 1 && (((rd_T41 t103 0).f2) == 2 && ((((rd_T41 t103 0).f3.f0) == 3 && (((rd_T41 t103 0).f3.f1) == 5 && (((rd_T41 t103 0).f3.f2) == 31 && (((rd_T41 t103 0).f3.f3) == 0 && (((rd_T41 t103 0).f3.f4) == 1 && (((rd_T41 t103 0).f3.f5) == (-1))))))))))) = true
 rotate_left
 ·rw [if_neg c12] at H
  exact absurd H (by simp)
 rw [if_pos c12] at H
 have c12b0 : ((((rd_T41 t103 0).f0).toList) == ([115] : List UInt8) && (((rd_T41 t103 0).f1) == 1 && (((rd_T41 t103 0).f2) == 2 && ((((rd_T41 t103 0).f3.f0) == 3 && (((rd_T41 t103 0).f3.f1) == 5 && (((rd_T41 t103 0).f3.f2) == 31 && (((rd_T41 t103 0).f3.f3) == 0 && (((rd_T41 t103 0).f3.f4) == 1 && (((rd_T41 t103 0).f3.f5) == (-1))))))))))) = true := c12
 (try (have c12b1 : decide ((((rd_T41 t103 0).f0).toList) = ([115] : List UInt8) && (((rd_T41 t103 0).f1) == 1 && (((rd_T41 t103 0).f2) == 2 && ((((rd_T41 t103 0).f3.f0) == 3 && (((rd_T41 t103 0).f3.f1) == 5 && (((rd_T41 t103 0).f3.f2) == 31 && (((rd_T41 t103 0).f3.f3) == 0 && (((rd_T41 t103 0).f3.f4) == 1 && (((rd_T41 t103 0).f3.f5) == (-1))))))))))) = true := by simpa using c12))
 (try (have c12b2 : ((((rd_T41 t103 0).f0).toList) == ([115] : List UInt8) && (((rd_T41 t103 0).f1) == 1 && (((rd_T41 t103 0).f2) == 2 && ((((rd_T41 t103 0).f3.f0) == 3 && (((rd_T41 t103 0).f3.f1) == 5 && (((rd_T41 t103 0).f3.f2) == 31 && (((rd_T41 t103 0).f3.f3) == 0 && (((rd_T41 t103 0).f3.f4) == 1 && (((rd_T41 t103 0).f3.f5) == (-1))))))))))) = true := by simpa using c12))
 clear c12
 by_cases c13 : 0 < (t106.length : Int)
 rotate_left
 ·rw [if_neg c13] at H
  exact absurd H (by simp)
 rw [if_pos c13] at H
 have c13b0 : decide (0 < (t106.length : Int)) = true := decide_eq_true c13
 have c13b1 : decide (0 < t106.length) = true := decide_eq_true (by omega)
 (try (have c13b6 : 0 < t106.length := of_decide_eq_true c13b1))
 clear c13
 by_cases c14 : ((((rd_T43 t106 0).f0).toList) == ([102] : List UInt8) && (((rd_T43 t106 0).f1) == 3 && (((rd_T43 t106 0).f2) == 3 && ((((rd_T43 t106 0).f3.f0) == 2 && (((rd_T43 t106 0).f3.f1) == 0 && (((rd_T43 t106 0).f3.f2) == 0 && (((rd_T43 t106 0).f3.f3) == 49 && (((rd_T43 t106 0).f3.f4) == 0 && (((rd_T43 t106 0).f3.f5) == 0)))))))))) = true
 rotate_left
 ·rw [if_neg c14] at H
  exact absurd H (by simp)
 rw [if_pos c14] at H
 have c14b0 : ((((rd_T43 t106 0).f0).toList) == ([102] : List UInt8) && (((rd_T43 t106 0).f1) == 3 && (((rd_T43 t106 0).f2) == 3 && ((((rd_T43 t106 0).f3.f0) == 2 && (((rd_T43 t106 0).f3.f1) == 0 && (((rd_T43 t106 0).f3.f2) == 0 && (((rd_T43 t106 0).f3.f3) == 49 && (((rd_T43 t106 0).f3.f4) == 0 && (((rd_T43 t106 0).f3.f5) == 0)))))))))) = true := c14
 (try (have c14b1 : decide ((((rd_T43 t106 0).f0).toList) = ([102] : List UInt8) && (((rd_T43 t106 0).f1) == 3 && (((rd_T43 t106 0).f2) == 3 && ((((rd_T43 t106 0).f3.f0) == 2 && (((rd_T43 t106 0).f3.f1) == 0 && (((rd_T43 t106 0).f3.f2) == 0 && (((rd_T43 t106 0).f3.f3) == 49 && (((rd_T43 t106 0).f3.f4) == 0 && (((rd_T43 t106 0).f3.f5) == 0)))))))))) = true := by simpa using c14))
 (try (have c14b2 : ((((rd_T43 t106 0).f0).toList) == ([102] : List UInt8) && (((rd_T43 t106 0).f1) == 3 && (((rd_T43 t106 0).f2) == 3 && ((((rd_T43 t106 0).f3.f0) == 2 && (((rd_T43 t106 0).f3.f1) == 0 && (((rd_T43 t106 0).f3.f2) == 0 && (((rd_T43 t106 0).f3.f3) == 49 && (((rd_T43 t106 0).f3.f4) == 0 && (((rd_T43 t106 0).f3.f5) == 0)))))))))) = true := by simpa using c14))
 clear c14
 by_cases c15 : t119 = 16
 rotate_left
 ·rw [if_neg c15] at H
  exact absurd H (by simp)
 rw [if_pos c15] at H
 have c15b0 : (t119 == 16) = true := beq_iff_eq.mpr c15
 have c15b1 : (t119 != 16) = false := bne_eq_false_iff_eq.mpr c15
 clear c15
 by_cases c16 : t120 = 6
 rotate_left
 ·rw [if_neg c16] at H
  exact absurd H (by simp)
 rw [if_pos c16] at H
 have c16b0 : (t120 == 6) = true := beq_iff_eq.mpr c16
 have c16b1 : (t120 != 6) = false := bne_eq_false_iff_eq.mpr c16
 clear c16
 by_cases c17 : t129 = 20
 rotate_left
 ·rw [if_neg c17] at H
  exact absurd H (by simp)
 rw [if_pos c17] at H
 have c17b0 : (t129 == 20) = true := beq_iff_eq.mpr c17
 have c17b1 : (t129 != 20) = false := bne_eq_false_iff_eq.mpr c17
 clear c17
 obtain rfl := Option.some.inj H
 go_enter Tryd.func8, Tryd.ntmps8
 go_wp2_with (first | ((with_reducible refine gate_callee (f := 9) rfl ?_); refine goesL_ (some 11) rfl rfl Tryd.func9 (by kernel_rfl) rfl #[.string (⟨#[99, 97, 116, 97, 108, 111, 103, 117, 101, 10, 102, 114, 101, 101, 32, 55, 10, 115, 101, 97, 115, 111, 110, 32, 115, 32, 49, 32, 50, 32, 110, 116, 104, 32, 109, 111, 110, 100, 97, 121, 32, 45, 49, 32, 53, 32, 51, 49, 10, 102, 101, 97, 115, 116, 32, 102, 32, 51, 32, 111, 109, 105, 116, 32, 101, 97, 115, 116, 101, 114, 32, 52, 57, 10, 101, 110, 100, 10]⟩ : ByteArray)] rfl (by (try simp only [List.map_toArray, List.map_cons, List.map_nil]); first | done | rfl | (simp only [List.length_drop, List.length_take]; rfl)) ?_; (with_reducible refine (cattext_Parse.calls (hT := Tabs.below HTAB.out (by repeat (first | (with_reducible first | exact HB.out | apply below_alloc | apply pw_below_drewN | apply below_drew1 | refine below_set ?_ (by assumption) | refine below_set ?_ GE111.out | refine below_set ?_ GE121.out | refine below_set ?_ GE131.out) | exact HB.out))) (⟨#[99, 97, 116, 97, 108, 111, 103, 117, 101, 10, 102, 114, 101, 101, 32, 55, 10, 115, 101, 97, 115, 111, 110, 32, 115, 32, 49, 32, 50, 32, 110, 116, 104, 32, 109, 111, 110, 100, 97, 121, 32, 45, 49, 32, 53, 32, 51, 49, 10, 102, 101, 97, 115, 116, 32, 102, 32, 51, 32, 111, 109, 105, 116, 32, 101, 97, 115, 116, 101, 114, 32, 52, 57, 10, 101, 110, 100, 10]⟩ : ByteArray) t102 t103 t106 t109 t110 _ A1.out).mono ?_); rintro e w18 ⟨v104, v107, rfl, ho0, ho1, hb⟩; refine ⟨_, rfl, ?_⟩; have HO105 := am_ (Kd.R_lower ho0 bz_); have HO108 := am_ (Kd.R_lower ho1 bz_); replace HB := bt_ hb; (try clear hb); (try clear ho0); (try clear ho1)) | ((with_reducible refine gate_dst (N := 1) rfl ?_); (try (refine gate_guard (by rfl) ?_; dsimp only)); refine be_ (N := 1) (cs := #[.int .i64 0, .slice none 0 0, .slice none 0 0]) (t := 26) ?_; intro gb111 hg w19 hbox hb; replace HO105 := rw_ HO105 hb; replace HO108 := rw_ HO108 hb; have BK111 := am_ (hbox); have GW111 := gw_ (w := w) hg; have GE111 := gw_ (w := w) hg; replace HB := bt_ hb; clear hb hbox hg; obtain ⟨hcz20_0, hcz20_1, hcz20_2⟩ := cz3_ BK111.out; obtain ⟨hfz20_0, hfz20_1, hfz20_2⟩ := fz3_ BK111.out; obtain ⟨Ao21, co21, eo21⟩ := Kd.R_slice HO105.out; subst eo21; obtain ⟨Ao22, co22, eo22⟩ := Kd.R_slice HO108.out; subst eo22) | ((with_reducible refine gate_callee (f := 9) rfl ?_); refine goesL_ (some 16) rfl rfl Tryd.func9 (by kernel_rfl) rfl #[.string (⟨#[99, 97, 116, 97, 108, 111, 103, 117, 101, 10, 102, 114, 101, 101, 32, 48, 48, 10, 101, 110, 100, 10]⟩ : ByteArray)] rfl (by (try simp only [List.map_toArray, List.map_cons, List.map_nil]); first | done | rfl | (simp only [List.length_drop, List.length_take]; rfl)) ?_; (with_reducible refine (cattext_Parse.calls (hT := Tabs.below HTAB.out (by repeat (first | (with_reducible first | exact HB.out | apply below_alloc | apply pw_below_drewN | apply below_drew1 | refine below_set ?_ (by assumption) | refine below_set ?_ GE111.out | refine below_set ?_ GE121.out | refine below_set ?_ GE131.out) | exact HB.out))) (⟨#[99, 97, 116, 97, 108, 111, 103, 117, 101, 10, 102, 114, 101, 101, 32, 48, 48, 10, 101, 110, 100, 10]⟩ : ByteArray) t112 t113 t116 t119 t120 _ A2.out).mono ?_); rintro e w23 ⟨v114, v117, rfl, ho0, ho1, hb⟩; refine ⟨_, rfl, ?_⟩; have HO115 := am_ (Kd.R_lower (Kd.R_new' ho0 (Kd.R_lt (fa_ HO105 BK111))) bz_); replace HO105 := am_ (Kd.R_elder' (fa_ HO105 BK111) (Kd.R_base ho0) hb); have HO118 := am_ (Kd.R_lower (Kd.R_new' ho1 (Kd.R_lt (fa_ HO108 BK111))) bz_); replace HO108 := am_ (Kd.R_elder' (fa_ HO108 BK111) (Kd.R_base ho1) hb); replace BK111 := am_ (blk_below (g := gb111) (o := .cells #[.int .i64 t102, .slice Ao21 t103.length co21, .slice Ao22 t106.length co22] 26 (0, 0)) (by refine bp_ ?_; refine blk_put (cs := #[.int .i64 t102, .slice Ao21 t103.length co21, .slice none 0 0]) ?_ 2 _ rfl; refine bp_ ?_; refine blk_put (cs := #[.int .i64 t102, .slice none 0 0, .slice none 0 0]) ?_ 1 _ rfl; refine bp_ ?_; refine blk_put (cs := #[.int .i64 0, .slice none 0 0, .slice none 0 0]) ?_ 0 _ rfl; exact bk_ BK111.out) hb); replace HB := bt_ hb; (try clear hb); (try clear ho0); (try clear ho1)) | ((with_reducible refine gate_dst (N := 4) rfl ?_); (try (refine gate_guard (by rfl) ?_; dsimp only)); refine be_ (N := 4) (cs := #[.int .i64 0, .slice none 0 0, .slice none 0 0]) (t := 26) ?_; intro gb121 hg w24 hbox hb; replace HO105 := rw_ HO105 hb; replace HO108 := rw_ HO108 hb; replace HO115 := rw_ HO115 hb; replace HO118 := rw_ HO118 hb; have BK121 := am_ (hbox); have GW121 := gw_ (w := w) hg; have GE121 := gw_ (w := w) hg; replace HB := bt_ hb; have NB111_121 := ne_ hg BK111; have NB121_111 := nf_ hg BK111; replace BK111 := bw_ BK111 hb; clear hb hbox hg; have hnb25 := NB121_111.out; have hnc25 := NB111_121.out; obtain ⟨hcz26_0, hcz26_1, hcz26_2⟩ := cz3_ BK121.out; obtain ⟨hfz26_0, hfz26_1, hfz26_2⟩ := fz3_ BK121.out; obtain ⟨Ao27, co27, eo27⟩ := Kd.R_slice HO115.out; subst eo27; obtain ⟨Ao28, co28, eo28⟩ := Kd.R_slice HO118.out; subst eo28) | ((with_reducible refine gate_callee (f := 9) rfl ?_); refine goesL_ (some 21) rfl rfl Tryd.func9 (by kernel_rfl) rfl #[.string (⟨#[99, 97, 116, 97, 108, 111, 103, 117, 101, 10, 102, 114, 101, 101, 32, 48, 10, 101, 110, 100]⟩ : ByteArray)] rfl (by (try simp only [List.map_toArray, List.map_cons, List.map_nil]); first | done | rfl | (simp only [List.length_drop, List.length_take]; rfl)) ?_; (with_reducible refine (cattext_Parse.calls (hT := Tabs.below HTAB.out (by repeat (first | (with_reducible first | exact HB.out | apply below_alloc | apply pw_below_drewN | apply below_drew1 | refine below_set ?_ (by assumption) | refine below_set ?_ GE111.out | refine below_set ?_ GE121.out | refine below_set ?_ GE131.out) | exact HB.out))) (⟨#[99, 97, 116, 97, 108, 111, 103, 117, 101, 10, 102, 114, 101, 101, 32, 48, 10, 101, 110, 100]⟩ : ByteArray) t122 t123 t126 t129 t130 _ A3.out).mono ?_); rintro e w29 ⟨v124, v127, rfl, ho0, ho1, hb⟩; refine ⟨_, rfl, ?_⟩; have HO125 := am_ (Kd.R_lower (Kd.R_new' (Kd.R_new' ho0 (Kd.R_lt (fa_ HO105 BK121))) (Kd.R_lt (fa_ HO115 BK121))) bz_); replace HO105 := am_ (Kd.R_elder' (fa_ HO105 BK121) (Kd.R_base ho0) hb); replace HO115 := am_ (Kd.R_elder' (fa_ HO115 BK121) (Kd.R_base ho0) hb); have HO128 := am_ (Kd.R_lower (Kd.R_new' (Kd.R_new' ho1 (Kd.R_lt (fa_ HO108 BK121))) (Kd.R_lt (fa_ HO118 BK121))) bz_); replace HO108 := am_ (Kd.R_elder' (fa_ HO108 BK121) (Kd.R_base ho1) hb); replace HO118 := am_ (Kd.R_elder' (fa_ HO118 BK121) (Kd.R_base ho1) hb); replace BK111 := am_ (blk_below (g := gb111) (o := .cells #[.int .i64 t102, .slice Ao21 t103.length co21, .slice Ao22 t106.length co22] 26 (0, 0)) (by refine bp_ ?_; refine blk_far ?_ NB111_121.out _; refine bp_ ?_; refine blk_far ?_ NB111_121.out _; refine bp_ ?_; refine blk_far ?_ NB111_121.out _; exact bk_ BK111.out) hb); replace BK121 := am_ (blk_below (g := gb121) (o := .cells #[.int .i64 t112, .slice Ao27 t113.length co27, .slice Ao28 t116.length co28] 26 (0, 0)) (by refine bp_ ?_; refine blk_put (cs := #[.int .i64 t112, .slice Ao27 t113.length co27, .slice none 0 0]) ?_ 2 _ rfl; refine bp_ ?_; refine blk_put (cs := #[.int .i64 t112, .slice none 0 0, .slice none 0 0]) ?_ 1 _ rfl; refine bp_ ?_; refine blk_put (cs := #[.int .i64 0, .slice none 0 0, .slice none 0 0]) ?_ 0 _ rfl; exact bk_ BK121.out) hb); replace HB := bt_ hb; (try clear hb); (try clear ho0); (try clear ho1)) | ((with_reducible refine gate_dst (N := 7) rfl ?_); (try (refine gate_guard (by rfl) ?_; dsimp only)); refine be_ (N := 7) (cs := #[.int .i64 0, .slice none 0 0, .slice none 0 0]) (t := 26) ?_; intro gb131 hg w30 hbox hb; replace HO105 := rw_ HO105 hb; replace HO108 := rw_ HO108 hb; replace HO115 := rw_ HO115 hb; replace HO118 := rw_ HO118 hb; replace HO125 := rw_ HO125 hb; replace HO128 := rw_ HO128 hb; have BK131 := am_ (hbox); have GW131 := gw_ (w := w) hg; have GE131 := gw_ (w := w) hg; replace HB := bt_ hb; have NB111_131 := ne_ hg BK111; have NB131_111 := nf_ hg BK111; replace BK111 := bw_ BK111 hb; have NB121_131 := ne_ hg BK121; have NB131_121 := nf_ hg BK121; replace BK121 := bw_ BK121 hb; clear hb hbox hg; have hnb31 := NB131_111.out; have hnc31 := NB111_131.out; have hnb32 := NB131_121.out; have hnc32 := NB121_131.out; obtain ⟨hcz33_0, hcz33_1, hcz33_2⟩ := cz3_ BK131.out; obtain ⟨hfz33_0, hfz33_1, hfz33_2⟩ := fz3_ BK131.out; obtain ⟨Ao34, co34, eo34⟩ := Kd.R_slice HO125.out; subst eo34; obtain ⟨Ao35, co35, eo35⟩ := Kd.R_slice HO128.out; subst eo35; obtain ⟨hcz36_0, hcz36_1, hcz36_2⟩ := cz3_ BK111.out; obtain ⟨hfz36_0, hfz36_1, hfz36_2⟩ := fz3_ BK111.out) | ((with_reducible refine gate_callee (f := 14) rfl ?_); refine goesL_ (some 36) rfl rfl Tryd.func14 (by kernel_rfl) rfl #[.agg #[.int .i64 0, .slice none 0 0, .slice none 0 0]] rfl (by (try simp only [List.map_toArray, List.map_cons, List.map_nil]); first | done | rfl | (simp only [List.length_drop, List.length_take]; rfl)) ?_; (refine (cattext_Print.calls (hT := Tabs.below HTAB.out (by repeat (first | (with_reducible first | exact HB.out | apply below_alloc | apply pw_below_drewN | apply below_drew1 | refine below_set ?_ (by assumption) | refine below_set ?_ GE111.out | refine below_set ?_ GE121.out | refine below_set ?_ GE131.out) | exact HB.out))) 0 _ _ ([] : List (S41)) _ _ ([] : List (S43)) t132 _ ?side1 ?side2 ?side3 ?side4 A6.out).mono ?_); (case side1 => exact Kd.C_nil _ _); (case side2 => exact Nat.le_refl _); (case side3 => exact Kd.C_nil _ _); (case side4 => exact Nat.le_refl _); rintro e w37 ⟨rfl, hb⟩; refine ⟨_, rfl, ?_⟩; replace HO105 := am_ (Kd.R_below (fa_ HO105 BK131) hb); replace HO108 := am_ (Kd.R_below (fa_ HO108 BK131) hb); replace HO115 := am_ (Kd.R_below (fa_ HO115 BK131) hb); replace HO118 := am_ (Kd.R_below (fa_ HO118 BK131) hb); replace HO125 := am_ (Kd.R_below (fa_ HO125 BK131) hb); replace HO128 := am_ (Kd.R_below (fa_ HO128 BK131) hb); replace BK111 := am_ (blk_below (g := gb111) (o := .cells #[.int .i64 t102, .slice Ao21 t103.length co21, .slice Ao22 t106.length co22] 26 (0, 0)) (by refine bp_ ?_; refine blk_far ?_ NB111_131.out _; refine bp_ ?_; refine blk_far ?_ NB111_131.out _; refine bp_ ?_; refine blk_far ?_ NB111_131.out _; exact bk_ BK111.out) hb); replace BK121 := am_ (blk_below (g := gb121) (o := .cells #[.int .i64 t112, .slice Ao27 t113.length co27, .slice Ao28 t116.length co28] 26 (0, 0)) (by refine bp_ ?_; refine blk_far ?_ NB121_131.out _; refine bp_ ?_; refine blk_far ?_ NB121_131.out _; refine bp_ ?_; refine blk_far ?_ NB121_131.out _; exact bk_ BK121.out) hb); replace BK131 := am_ (blk_below (g := gb131) (o := .cells #[.int .i64 t122, .slice Ao34 t123.length co34, .slice Ao35 t126.length co35] 26 (0, 0)) (by refine bp_ ?_; refine blk_put (cs := #[.int .i64 t122, .slice Ao34 t123.length co34, .slice none 0 0]) ?_ 2 _ rfl; refine bp_ ?_; refine blk_put (cs := #[.int .i64 t122, .slice none 0 0, .slice none 0 0]) ?_ 1 _ rfl; refine bp_ ?_; refine blk_put (cs := #[.int .i64 0, .slice none 0 0, .slice none 0 0]) ?_ 0 _ rfl; exact bk_ BK131.out) hb); replace HB := bt_ hb; (try clear hb); obtain ⟨hcz38_0, hcz38_1, hcz38_2⟩ := cz3_ BK111.out; obtain ⟨hfz38_0, hfz38_1, hfz38_2⟩ := fz3_ BK111.out; have p133 : 0 ≤ (0 : Int) := (by omega); have q133 : 0 < (t103.length : Int) := of_decide_eq_true as_; obtain ⟨ad133, e133, hx133_0, hx133_1, hx133_2, hx133_3, hx133_4, hx133_5, hx133_6, hx133_7, hx133_8⟩ := at_T41 (Kd.R_reads' HO105.out).2.2 0 p133 q133; cases e133; have qi133 : (0 < t103.length) = True := eq_true (by omega); (try rw [show ((0 : Int)).toNat = 0 from rfl] at hx133_0); (try rw [show 0 * 9 = 0 from rfl] at hx133_0); (try rw [Addr.add_zero'] at hx133_0); (try rw [show ((0 : Int)).toNat = 0 from rfl] at hx133_1); (try rw [show 0 * 9 = 0 from rfl] at hx133_1); (try rw [Addr.add_zero'] at hx133_1); (try rw [show ((0 : Int)).toNat = 0 from rfl] at hx133_2); (try rw [show 0 * 9 = 0 from rfl] at hx133_2); (try rw [Addr.add_zero'] at hx133_2); (try rw [show ((0 : Int)).toNat = 0 from rfl] at hx133_3); (try rw [show 0 * 9 = 0 from rfl] at hx133_3); (try rw [Addr.add_zero'] at hx133_3); (try rw [show ((0 : Int)).toNat = 0 from rfl] at hx133_4); (try rw [show 0 * 9 = 0 from rfl] at hx133_4); (try rw [Addr.add_zero'] at hx133_4); (try rw [show ((0 : Int)).toNat = 0 from rfl] at hx133_5); (try rw [show 0 * 9 = 0 from rfl] at hx133_5); (try rw [Addr.add_zero'] at hx133_5); (try rw [show ((0 : Int)).toNat = 0 from rfl] at hx133_6); (try rw [show 0 * 9 = 0 from rfl] at hx133_6); (try rw [Addr.add_zero'] at hx133_6); (try rw [show ((0 : Int)).toNat = 0 from rfl] at hx133_7); (try rw [show 0 * 9 = 0 from rfl] at hx133_7); (try rw [Addr.add_zero'] at hx133_7); (try rw [show ((0 : Int)).toNat = 0 from rfl] at hx133_8); (try rw [show 0 * 9 = 0 from rfl] at hx133_8); (try rw [Addr.add_zero'] at hx133_8); replace p133 := eq_true p133; replace q133 := eq_true q133; have p134 : 0 ≤ (0 : Int) := (by omega); have q134 : 0 < (t106.length : Int) := of_decide_eq_true as_; obtain ⟨ad134, e134, hx134_0, hx134_1, hx134_2, hx134_3, hx134_4, hx134_5, hx134_6, hx134_7, hx134_8⟩ := at_T43 (Kd.R_reads' HO108.out).2.2 0 p134 q134; cases e134; have qi134 : (0 < t106.length) = True := eq_true (by omega); (try rw [show ((0 : Int)).toNat = 0 from rfl] at hx134_0); (try rw [show 0 * 9 = 0 from rfl] at hx134_0); (try rw [Addr.add_zero'] at hx134_0); (try rw [show ((0 : Int)).toNat = 0 from rfl] at hx134_1); (try rw [show 0 * 9 = 0 from rfl] at hx134_1); (try rw [Addr.add_zero'] at hx134_1); (try rw [show ((0 : Int)).toNat = 0 from rfl] at hx134_2); (try rw [show 0 * 9 = 0 from rfl] at hx134_2); (try rw [Addr.add_zero'] at hx134_2); (try rw [show ((0 : Int)).toNat = 0 from rfl] at hx134_3); (try rw [show 0 * 9 = 0 from rfl] at hx134_3); (try rw [Addr.add_zero'] at hx134_3); (try rw [show ((0 : Int)).toNat = 0 from rfl] at hx134_4); (try rw [show 0 * 9 = 0 from rfl] at hx134_4); (try rw [Addr.add_zero'] at hx134_4); (try rw [show ((0 : Int)).toNat = 0 from rfl] at hx134_5); (try rw [show 0 * 9 = 0 from rfl] at hx134_5); (try rw [Addr.add_zero'] at hx134_5); (try rw [show ((0 : Int)).toNat = 0 from rfl] at hx134_6); (try rw [show 0 * 9 = 0 from rfl] at hx134_6); (try rw [Addr.add_zero'] at hx134_6); (try rw [show ((0 : Int)).toNat = 0 from rfl] at hx134_7); (try rw [show 0 * 9 = 0 from rfl] at hx134_7); (try rw [Addr.add_zero'] at hx134_7); (try rw [show ((0 : Int)).toNat = 0 from rfl] at hx134_8); (try rw [show 0 * 9 = 0 from rfl] at hx134_8); (try rw [Addr.add_zero'] at hx134_8); replace p134 := eq_true p134; replace q134 := eq_true q134))
 go_ret
 exact rt_
end
def computuslaw26_CattextMatchesReference.j0 : Nat → ByteArray → Bool → Option (Bool)
 | 0, _, _ => none
 | k + 1, x0, x15 => if x15 = true then ((computuslaw26_awake.f).bind fun t338 => (some t338)) else ((cattext_Parse.f x0).bind fun bt339 => ((computusref26_Parse.f k x0).bind fun bt349 => ((computusref17_Same.f k bt339.1 bt339.2.1 bt339.2.2.1 bt349.1 bt349.2.1 bt349.2.2.1).bind fun t359 => (if t359 = true then (if bt339.2.2.2.1 = bt349.2.2.2.1 then (if ((bt339.2.2.2.2 == 0) == bt349.2.2.2.2) = true then (if bt339.2.2.2.2 = 0 then (some true) else (some (bt339.2.2.2.2 == 6))) else (none)) else (none)) else (none)))))
def computuslaw26_CattextMatchesReference.f (k : Nat) (a0 : ByteArray) : Option (Bool) := (computuslaw26_awake.f).bind fun t337 => (if t337 = true then (computuslaw26_CattextMatchesReference.j0 k a0 (decide ((a0.size : Int) > 5000))) else (computuslaw26_CattextMatchesReference.j0 k a0 true))
theorem computuslaw26_CattextMatchesReference.calls (k : Nat) (a0 : ByteArray) (r : Bool) (w : World) (hT : Tabs w) (h : computuslaw26_CattextMatchesReference.f k a0 = some r) :
  Calls Tryd.prog 3 #[.string a0] w fun e w' => e = .returned (.bool r) ∧ Below w.heap.size w w' := by
 have HTAB := Aside0.mk hT
 clear hT
 have hu26 := Tryd.underlying26
 have HB := Aside0.mk (Below.refl w.heap.size w)
 have H : ((computuslaw26_awake.f).bind fun t337 => (if t337 = true then (computuslaw26_CattextMatchesReference.j0 k a0 (decide ((a0.size : Int) > 5000))) else (computuslaw26_CattextMatchesReference.j0 k a0 true))) = some r := h
 clear h
 have HC2 := Aside0.mk H
 clear H
 go_enter Tryd.func3, Tryd.ntmps3
 go_upto_region 1 with (fail)
 go_cut [15] (fun v15 wc => ∃ (kq : Nat) (x15_1 : Bool), v15 = .bool x15_1 ∧ Aside0 (computuslaw26_CattextMatchesReference.j0 kq a0 x15_1 = some r) ∧ Aside0 (kq ≤ k) ∧ Aside0 (Below w.heap.size w wc))
 case first =>
  have H := HC2.out
  clear HC2
  replace H := Option.bind_eq_some_iff.mp H
  obtain ⟨t337, A30, H⟩ := H
  replace H : (if t337 = true then (computuslaw26_CattextMatchesReference.j0 k a0 (decide ((a0.size : Int) > 5000))) else (computuslaw26_CattextMatchesReference.j0 k a0 true)) = some r := H
  have A3 := Aside0.mk A30
  clear A30
  by_cases c4 : t337 = true
  ·subst c4
   have H1 : (computuslaw26_CattextMatchesReference.j0 k a0 (decide ((a0.size : Int) > 5000))) = some r := by rw [if_pos rfl] at H; exact H
   clear H
   have H := H1
   clear H1
   have H' := Aside0.mk H
   clear H
   go_wp2_with (first | ((with_reducible refine gate_callee (f := 8) rfl ?_); refine goesL_ (some 9) rfl rfl Tryd.func8 (by kernel_rfl) rfl #[] rfl (by (try simp only [List.map_toArray, List.map_cons, List.map_nil]); first | done | rfl | (simp only [List.length_drop, List.length_take]; rfl)) ?_; (with_reducible refine (computuslaw26_awake.calls (hT := Tabs.below HTAB.out (by repeat (first | (with_reducible first | exact HB.out | apply below_alloc | apply pw_below_drewN | apply below_drew1 | refine below_set ?_ (by assumption)) | exact HB.out)))  true _ A3.out).mono ?_); rintro e w5 ⟨rfl, hb⟩; refine ⟨_, rfl, ?_⟩; have n0_ := Aside0.mk (below_step (by repeat (first | (with_reducible first | exact HB.out | apply below_alloc | apply pw_below_drewN | apply below_drew1) | exact HB.out)) hb); clear HB; have HB := n0_; clear n0_; (try clear hb); (try clear hb2); (try clear hk); (try clear hi)))
   go_meet
   case rel => exact ⟨_, (decide ((a0.size : Int) > 5000)), (by first | rfl | (simp; done) | (simp [*]; done)), H', ⟨by first | omega | exact Nat.le_refl _⟩, ⟨by repeat (first | (with_reducible first | exact HB.out | apply below_alloc | apply pw_below_drewN | apply below_drew1) | exact HB.out)⟩⟩
  ·replace c4 := Bool.eq_false_iff.mpr c4
   subst c4
   have H1 : (computuslaw26_CattextMatchesReference.j0 k a0 true) = some r := by rw [if_neg (show ¬ (false = true) by decide)] at H; exact H
   clear H
   have H := H1
   clear H1
   have H' := Aside0.mk H
   clear H
   go_wp2_with (first | ((with_reducible refine gate_callee (f := 8) rfl ?_); refine goesL_ (some 9) rfl rfl Tryd.func8 (by kernel_rfl) rfl #[] rfl (by (try simp only [List.map_toArray, List.map_cons, List.map_nil]); first | done | rfl | (simp only [List.length_drop, List.length_take]; rfl)) ?_; (with_reducible refine (computuslaw26_awake.calls (hT := Tabs.below HTAB.out (by repeat (first | (with_reducible first | exact HB.out | apply below_alloc | apply pw_below_drewN | apply below_drew1 | refine below_set ?_ (by assumption)) | exact HB.out)))  false _ A3.out).mono ?_); rintro e w6 ⟨rfl, hb⟩; refine ⟨_, rfl, ?_⟩; have n0_ := Aside0.mk (below_step (by repeat (first | (with_reducible first | exact HB.out | apply below_alloc | apply pw_below_drewN | apply below_drew1) | exact HB.out)) hb); clear HB; have HB := n0_; clear n0_; (try clear hb); (try clear hb2); (try clear hk); (try clear hi)))
   go_meet
   case rel => exact ⟨_, (true), (by first | rfl | (simp; done) | (simp [*]; done)), H', ⟨by first | omega | exact Nat.le_refl _⟩, ⟨by repeat (first | (with_reducible first | exact HB.out | apply below_alloc | apply pw_below_drewN | apply below_drew1) | exact HB.out)⟩⟩
 case rest =>
  clear HC2
  try clear p2
  try clear c3
  try clear c4
  obtain ⟨kq, x15_1, rfl, HA, HJ1, HB⟩ := hcut
  cases kq with
  | zero => exact absurd HA.out (by simp [computuslaw26_CattextMatchesReference.j0])
  | succ kj1 =>
   have H := HA.out
   clear HA
   simp only [computuslaw26_CattextMatchesReference.j0] at H
   by_cases c7 : x15_1 = true
   ·subst c7
    have H1 : ((computuslaw26_awake.f).bind fun t338 => (some t338)) = some r := by rw [if_pos rfl] at H; exact H
    clear H
    have H := H1
    clear H1
    replace H := Option.bind_eq_some_iff.mp H
    obtain ⟨t338, A80, H⟩ := H
    replace H : (some t338) = some r := H
    have A8 := Aside0.mk A80
    clear A80
    obtain rfl := Option.some.inj H
    go_wp2_with (first | ((with_reducible refine gate_callee (f := 8) rfl ?_); refine goesL_ (some 16) rfl rfl Tryd.func8 (by kernel_rfl) rfl #[] rfl (by (try simp only [List.map_toArray, List.map_cons, List.map_nil]); first | done | rfl | (simp only [List.length_drop, List.length_take]; rfl)) ?_; (with_reducible refine (computuslaw26_awake.calls (hT := Tabs.below HTAB.out (by repeat (first | (with_reducible first | exact HB.out | apply below_alloc | apply pw_below_drewN | apply below_drew1 | refine below_set ?_ (by assumption)) | exact HB.out)))  t338 _ A8.out).mono ?_); rintro e w9 ⟨rfl, hb⟩; refine ⟨_, rfl, ?_⟩; have n0_ := Aside0.mk (below_step (by repeat (first | (with_reducible first | exact HB.out | apply below_alloc | apply pw_below_drewN | apply below_drew1) | exact HB.out)) hb); clear HB; have HB := n0_; clear n0_; (try clear hb); (try clear hb2); (try clear hk); (try clear hi)))
    go_ret
    exact ⟨by first | rfl | (simp [errW_none, errW_some] <;> rfl) | (simp [*, errW_none, errW_some] <;> rfl), by repeat (first | (with_reducible first | exact HB.out | apply below_alloc | apply pw_below_drewN | apply below_drew1) | exact HB.out)⟩
   ·replace c7 := Bool.eq_false_iff.mpr c7
    subst c7
    have H1 : ((cattext_Parse.f a0).bind fun bt339 => ((computusref26_Parse.f kj1 a0).bind fun bt349 => ((computusref17_Same.f kj1 bt339.1 bt339.2.1 bt339.2.2.1 bt349.1 bt349.2.1 bt349.2.2.1).bind fun t359 => (if t359 = true then (if bt339.2.2.2.1 = bt349.2.2.2.1 then (if ((bt339.2.2.2.2 == 0) == bt349.2.2.2.2) = true then (if bt339.2.2.2.2 = 0 then (some true) else (some (bt339.2.2.2.2 == 6))) else (none)) else (none)) else (none))))) = some r := by rw [if_neg (show ¬ (false = true) by decide)] at H; exact H
    clear H
    have H := H1
    clear H1
    replace H := Option.bind_eq_some_iff.mp H
    obtain ⟨⟨t339, t340, t343, t346, t347⟩, A100, H⟩ := H
    replace H : ((computusref26_Parse.f kj1 a0).bind fun bt349 => ((computusref17_Same.f kj1 t339 t340 t343 bt349.1 bt349.2.1 bt349.2.2.1).bind fun t359 => (if t359 = true then (if t346 = bt349.2.2.2.1 then (if ((t347 == 0) == bt349.2.2.2.2) = true then (if t347 = 0 then (some true) else (some (t347 == 6))) else (none)) else (none)) else (none)))) = some r := H
    have A10 := Aside0.mk A100
    clear A100
    replace H := Option.bind_eq_some_iff.mp H
    obtain ⟨⟨t349, t350, t353, t356, t357⟩, A110, H⟩ := H
    replace H : ((computusref17_Same.f kj1 t339 t340 t343 t349 t350 t353).bind fun t359 => (if t359 = true then (if t346 = t356 then (if ((t347 == 0) == t357) = true then (if t347 = 0 then (some true) else (some (t347 == 6))) else (none)) else (none)) else (none))) = some r := H
    have A11 := Aside0.mk A110
    clear A110
    replace H := Option.bind_eq_some_iff.mp H
    obtain ⟨t359, A120, H⟩ := H
    replace H : (if t359 = true then (if t346 = t356 then (if ((t347 == 0) == t357) = true then (if t347 = 0 then (some true) else (some (t347 == 6))) else (none)) else (none)) else (none)) = some r := H
    have A12 := Aside0.mk A120
    clear A120
    by_cases c13 : t359 = true
    ·subst c13
     have H1 : (if t346 = t356 then (if ((t347 == 0) == t357) = true then (if t347 = 0 then (some true) else (some (t347 == 6))) else (none)) else (none)) = some r := by rw [if_pos rfl] at H; exact H
     clear H
     have H := H1
     clear H1
     by_cases c14 : t346 = t356
     ·rw [if_pos c14] at H
      have c14b0 : (t346 == t356) = true := beq_iff_eq.mpr c14
      have c14b1 : (t346 != t356) = false := bne_eq_false_iff_eq.mpr c14
      clear c14
      by_cases c15 : ((t347 == 0) == t357) = true
      ·rw [if_pos c15] at H
       have c15b0 : ((t347 == 0) == t357) = true := c15
       (try (have c15b1 : decide ((t347 == 0) = t357) = true := by simpa using c15))
       (try (have c15b2 : ((t347 == 0) == t357) = true := by simpa using c15))
       clear c15
       by_cases c16 : t347 = 0
       ·rw [if_pos c16] at H
        have c16b0 : (t347 == 0) = true := beq_iff_eq.mpr c16
        have hx_ : t357 = true := by simpa [c16b0] using c15b0
        subst hx_
        have c16b1 : (t347 != 0) = false := bne_eq_false_iff_eq.mpr c16
        clear c16
        obtain rfl := Option.some.inj H
        go_wp2_with (first | ((with_reducible refine gate_callee (f := 9) rfl ?_); refine goesL_ (some 19) rfl rfl Tryd.func9 (by kernel_rfl) rfl #[.string a0] rfl (by (try simp only [List.map_toArray, List.map_cons, List.map_nil]); first | done | rfl | (simp only [List.length_drop, List.length_take]; rfl)) ?_; (with_reducible refine (cattext_Parse.calls (hT := Tabs.below HTAB.out (by repeat (first | (with_reducible first | exact HB.out | apply below_alloc | apply pw_below_drewN | apply below_drew1 | refine below_set ?_ (by assumption)) | exact HB.out))) a0 t339 t340 t343 t346 t347 _ A10.out).mono ?_); rintro e w17 ⟨v341, v344, rfl, ho0, ho1, hb⟩; refine ⟨_, rfl, ?_⟩; have n0_ := Aside0.mk (Kd.R_lower ho0 (below_size (by repeat (first | (with_reducible first | exact HB.out | apply below_alloc | apply pw_below_drewN | apply below_drew1) | exact HB.out)))); have n1_ := Aside0.mk (Kd.R_lower ho1 (below_size (by repeat (first | (with_reducible first | exact HB.out | apply below_alloc | apply pw_below_drewN | apply below_drew1) | exact HB.out)))); have n2_ := Aside0.mk (below_step (by repeat (first | (with_reducible first | exact HB.out | apply below_alloc | apply pw_below_drewN | apply below_drew1) | exact HB.out)) hb); clear HB; have HO342 := n0_; have HO345 := n1_; have HB := n2_; clear n0_ n1_ n2_; (try clear hb); (try clear hb2); (try clear hk); (try clear hi); (try clear ho0); (try clear ho1)) | ((with_reducible refine gate_dst (N := 3) rfl ?_); (try (refine gate_guard (by rfl) ?_; dsimp only)); refine box_event ?hg (N := 3) ?hd (cs := #[.int .i64 0, .slice none 0 0, .slice none 0 0]) (t := 26) ?hr ?_; (case hd => rfl); (case hg => rfl); (case hr => first | (go_simp; done) | (go_simp; rfl)); intro gb348 hg w18 hbox hb; have n0_ := Aside0.mk (Kd.R_below (by (with_reducible repeat (first | apply Kd.R_alloc | apply Kd.R_drewN | apply Kd.R_drew)); exact HO342.out) hb); have n1_ := Aside0.mk (Kd.R_below (by (with_reducible repeat (first | apply Kd.R_alloc | apply Kd.R_drewN | apply Kd.R_drew)); exact HO345.out) hb); have n2_ := Aside0.mk (below_step (by repeat (first | (with_reducible first | exact HB.out | apply below_alloc | apply pw_below_drewN | apply below_drew1) | exact HB.out)) hb); have n3_ := Aside0.mk (hbox); have n4_ := Aside0.mk ((by rw [hg]; exact (below_size (by repeat (first | (with_reducible first | exact HB.out | apply below_alloc | apply pw_below_drewN | apply below_drew1) | exact HB.out))) : w.heap.size ≤ gb348)); have n5_ := Aside0.mk ((by rw [hg]; exact (below_size (by repeat (first | (with_reducible first | exact HB.out | apply below_alloc | apply pw_below_drewN | apply below_drew1) | exact HB.out))) : w.heap.size ≤ gb348)); clear HO342; clear HO345; clear HB; have HO342 := n0_; have HO345 := n1_; have HB := n2_; have BK348 := n3_; have GW348 := n4_; have GE348 := n5_; clear n0_ n1_ n2_ n3_ n4_ n5_; clear hb hbox hg; have hcz19_0 : w18.cell? ⟨gb348, 0, none⟩ = some (.int .i64 0) := (blk_cell BK348.out 0).trans rfl; have hcz19_1 : w18.cell? ⟨gb348, 1, none⟩ = some (.slice none 0 0) := (blk_cell BK348.out 1).trans rfl; have hcz19_2 : w18.cell? ⟨gb348, 2, none⟩ = some (.slice none 0 0) := (blk_cell BK348.out 2).trans rfl; have hfz19_0 := blk_frozen BK348.out 0; have hfz19_1 := blk_frozen BK348.out 1; have hfz19_2 := blk_frozen BK348.out 2; obtain ⟨Ao20, co20, eo20⟩ := Kd.R_slice HO342.out; subst eo20; obtain ⟨Ao21, co21, eo21⟩ := Kd.R_slice HO345.out; subst eo21) | ((with_reducible refine gate_callee (f := 10) rfl ?_); refine goesL_ (some 25) rfl rfl Tryd.func10 (by kernel_rfl) rfl #[.string a0] rfl (by (try simp only [List.map_toArray, List.map_cons, List.map_nil]); first | done | rfl | (simp only [List.length_drop, List.length_take]; rfl)) ?_; (with_reducible refine (computusref26_Parse.calls kj1 a0 t349 t350 t353 t356 true _ A11.out).mono ?_); rintro e w22 ⟨v351, v354, rfl, ho0, ho1, hb⟩; refine ⟨_, rfl, ?_⟩; have n0_ := Aside0.mk (Kd.R_elder' (by (with_reducible repeat (first | apply Kd.R_alloc | apply Kd.R_drewN | apply Kd.R_drew)); exact (Kd.R_mono (Kd.R_far (p := ⟨gb348, 2, none⟩) (Kd.R_far (p := ⟨gb348, 1, none⟩) (Kd.R_far (p := ⟨gb348, 0, none⟩) (Kd.R_types HO342.out BK348.out (by decide)) (fun _ hk => hk.2) (.int .i64 t339)) (fun _ hk => hk.2) (.slice Ao20 t340.length co20)) (fun _ hk => hk.2) (.slice Ao21 t343.length co21)) (fun _ h_ => h_.1))) (Kd.R_base ho0) hb); have n1_ := Aside0.mk (Kd.R_elder' (by (with_reducible repeat (first | apply Kd.R_alloc | apply Kd.R_drewN | apply Kd.R_drew)); exact (Kd.R_mono (Kd.R_far (p := ⟨gb348, 2, none⟩) (Kd.R_far (p := ⟨gb348, 1, none⟩) (Kd.R_far (p := ⟨gb348, 0, none⟩) (Kd.R_types HO345.out BK348.out (by decide)) (fun _ hk => hk.2) (.int .i64 t339)) (fun _ hk => hk.2) (.slice Ao20 t340.length co20)) (fun _ hk => hk.2) (.slice Ao21 t343.length co21)) (fun _ h_ => h_.1))) (Kd.R_base ho1) hb); have n2_ := Aside0.mk (Kd.R_lower (Kd.R_new' ho0 (Kd.R_lt (by (with_reducible repeat (first | apply Kd.R_alloc | apply Kd.R_drewN | apply Kd.R_drew)); exact (Kd.R_mono (Kd.R_far (p := ⟨gb348, 2, none⟩) (Kd.R_far (p := ⟨gb348, 1, none⟩) (Kd.R_far (p := ⟨gb348, 0, none⟩) (Kd.R_types HO342.out BK348.out (by decide)) (fun _ hk => hk.2) (.int .i64 t339)) (fun _ hk => hk.2) (.slice Ao20 t340.length co20)) (fun _ hk => hk.2) (.slice Ao21 t343.length co21)) (fun _ h_ => h_.1))))) (below_size (by repeat (first | (with_reducible first | exact HB.out | apply below_alloc | apply pw_below_drewN | apply below_drew1 | refine below_set ?_ GE348.out) | exact HB.out)))); have n3_ := Aside0.mk (Kd.R_lower (Kd.R_new' ho1 (Kd.R_lt (by (with_reducible repeat (first | apply Kd.R_alloc | apply Kd.R_drewN | apply Kd.R_drew)); exact (Kd.R_mono (Kd.R_far (p := ⟨gb348, 2, none⟩) (Kd.R_far (p := ⟨gb348, 1, none⟩) (Kd.R_far (p := ⟨gb348, 0, none⟩) (Kd.R_types HO345.out BK348.out (by decide)) (fun _ hk => hk.2) (.int .i64 t339)) (fun _ hk => hk.2) (.slice Ao20 t340.length co20)) (fun _ hk => hk.2) (.slice Ao21 t343.length co21)) (fun _ h_ => h_.1))))) (below_size (by repeat (first | (with_reducible first | exact HB.out | apply below_alloc | apply pw_below_drewN | apply below_drew1 | refine below_set ?_ GE348.out) | exact HB.out)))); have n4_ := Aside0.mk (blk_below (g := gb348) (o := .cells #[.int .i64 t339, .slice Ao20 t340.length co20, .slice Ao21 t343.length co21] 26 (0, 0)) (by (with_reducible repeat (first | refine blk_drewN ?_ _ | refine blk_drew ?_ | refine blk_alloc ?_ _)); refine blk_put (cs := #[.int .i64 t339, .slice Ao20 t340.length co20, .slice none 0 0]) ?_ 2 _ rfl; (with_reducible repeat (first | refine blk_drewN ?_ _ | refine blk_drew ?_ | refine blk_alloc ?_ _)); refine blk_put (cs := #[.int .i64 t339, .slice none 0 0, .slice none 0 0]) ?_ 1 _ rfl; (with_reducible repeat (first | refine blk_drewN ?_ _ | refine blk_drew ?_ | refine blk_alloc ?_ _)); refine blk_put (cs := #[.int .i64 0, .slice none 0 0, .slice none 0 0]) ?_ 0 _ rfl; (with_reducible repeat (first | refine blk_drewN ?_ _ | refine blk_drew ?_ | refine blk_alloc ?_ _)); exact BK348.out) hb); have n5_ := Aside0.mk (below_step (by repeat (first | (with_reducible first | exact HB.out | apply below_alloc | apply pw_below_drewN | apply below_drew1 | refine below_set ?_ GE348.out) | exact HB.out)) hb); clear HO342; clear HO345; clear BK348; clear HB; have HO342 := n0_; have HO345 := n1_; have HO352 := n2_; have HO355 := n3_; have BK348 := n4_; have HB := n5_; clear n0_ n1_ n2_ n3_ n4_ n5_; (try clear hb); (try clear hb2); (try clear hk); (try clear hi); (try clear ho0); (try clear ho1)) | ((with_reducible refine gate_dst (N := 6) rfl ?_); (try (refine gate_guard (by rfl) ?_; dsimp only)); refine box_event ?hg (N := 6) ?hd (cs := #[.int .i64 0, .slice none 0 0, .slice none 0 0]) (t := 26) ?hr ?_; (case hd => rfl); (case hg => rfl); (case hr => first | (go_simp; done) | (go_simp; rfl)); intro gb358 hg w23 hbox hb; have n0_ := Aside0.mk (Kd.R_below (by (with_reducible repeat (first | apply Kd.R_alloc | apply Kd.R_drewN | apply Kd.R_drew)); exact HO342.out) hb); have n1_ := Aside0.mk (Kd.R_below (by (with_reducible repeat (first | apply Kd.R_alloc | apply Kd.R_drewN | apply Kd.R_drew)); exact HO345.out) hb); have n2_ := Aside0.mk (Kd.R_below (by (with_reducible repeat (first | apply Kd.R_alloc | apply Kd.R_drewN | apply Kd.R_drew)); exact HO352.out) hb); have n3_ := Aside0.mk (Kd.R_below (by (with_reducible repeat (first | apply Kd.R_alloc | apply Kd.R_drewN | apply Kd.R_drew)); exact HO355.out) hb); have n4_ := Aside0.mk (blk_below (g := gb348) (o := .cells #[.int .i64 t339, .slice Ao20 t340.length co20, .slice Ao21 t343.length co21] 26 (0, 0)) (by (with_reducible repeat (first | refine blk_drewN ?_ _ | refine blk_drew ?_ | refine blk_alloc ?_ _)); exact BK348.out) hb); have n5_ := Aside0.mk (below_step (by repeat (first | (with_reducible first | exact HB.out | apply below_alloc | apply pw_below_drewN | apply below_drew1 | refine below_set ?_ GE348.out) | exact HB.out)) hb); have n6_ := Aside0.mk (hbox); have n7_ := Aside0.mk ((by rw [hg]; exact (below_size (by repeat (first | (with_reducible first | exact HB.out | apply below_alloc | apply pw_below_drewN | apply below_drew1 | refine below_set ?_ GE348.out) | exact HB.out))) : w.heap.size ≤ gb358)); have n8_ := Aside0.mk ((by rw [hg]; exact (below_size (by repeat (first | (with_reducible first | exact HB.out | apply below_alloc | apply pw_below_drewN | apply below_drew1 | refine below_set ?_ GE348.out) | exact HB.out))) : w.heap.size ≤ gb358)); have n9_ := Aside0.mk ((by rw [hg]; exact Nat.ne_of_lt (blk_lt (g := gb348) (o := .cells #[.int .i64 t339, .slice Ao20 t340.length co20, .slice Ao21 t343.length co21] 26 (0, 0)) (by (with_reducible repeat (first | refine blk_drewN ?_ _ | refine blk_drew ?_ | refine blk_alloc ?_ _)); exact BK348.out)) : gb348 ≠ gb358)); have n10_ := Aside0.mk ((by rw [hg]; exact Nat.ne_of_gt (blk_lt (g := gb348) (o := .cells #[.int .i64 t339, .slice Ao20 t340.length co20, .slice Ao21 t343.length co21] 26 (0, 0)) (by (with_reducible repeat (first | refine blk_drewN ?_ _ | refine blk_drew ?_ | refine blk_alloc ?_ _)); exact BK348.out)) : gb358 ≠ gb348)); clear HO342; clear HO345; clear HO352; clear HO355; clear BK348; clear HB; have HO342 := n0_; have HO345 := n1_; have HO352 := n2_; have HO355 := n3_; have BK348 := n4_; have HB := n5_; have BK358 := n6_; have GW358 := n7_; have GE358 := n8_; have NB348_358 := n9_; have NB358_348 := n10_; clear n0_ n1_ n2_ n3_ n4_ n5_ n6_ n7_ n8_ n9_ n10_; clear hb hbox hg; have hnb24 := NB358_348.out; have hnc24 := NB348_358.out; have hcz25_0 : w23.cell? ⟨gb358, 0, none⟩ = some (.int .i64 0) := (blk_cell BK358.out 0).trans rfl; have hcz25_1 : w23.cell? ⟨gb358, 1, none⟩ = some (.slice none 0 0) := (blk_cell BK358.out 1).trans rfl; have hcz25_2 : w23.cell? ⟨gb358, 2, none⟩ = some (.slice none 0 0) := (blk_cell BK358.out 2).trans rfl; have hfz25_0 := blk_frozen BK358.out 0; have hfz25_1 := blk_frozen BK358.out 1; have hfz25_2 := blk_frozen BK358.out 2; obtain ⟨Ao26, co26, eo26⟩ := Kd.R_slice HO352.out; subst eo26; obtain ⟨Ao27, co27, eo27⟩ := Kd.R_slice HO355.out; subst eo27; have hcz28_0 : w23.cell? ⟨gb348, 0, none⟩ = some (.int .i64 t339) := (blk_cell BK348.out 0).trans rfl; have hcz28_1 : w23.cell? ⟨gb348, 1, none⟩ = some (.slice Ao20 t340.length co20) := (blk_cell BK348.out 1).trans rfl; have hcz28_2 : w23.cell? ⟨gb348, 2, none⟩ = some (.slice Ao21 t343.length co21) := (blk_cell BK348.out 2).trans rfl; have hfz28_0 := blk_frozen BK348.out 0; have hfz28_1 := blk_frozen BK348.out 1; have hfz28_2 := blk_frozen BK348.out 2) | ((with_reducible refine gate_callee (f := 11) rfl ?_); refine goesL_ (some 31) rfl rfl Tryd.func11 (by kernel_rfl) rfl #[.agg #[.int .i64 t339, .slice Ao20 t340.length co20, .slice Ao21 t343.length co21], .agg #[.int .i64 t349, .slice Ao26 t350.length co26, .slice Ao27 t353.length co27]] rfl (by (try simp only [List.map_toArray, List.map_cons, List.map_nil]); first | done | rfl | (simp only [List.length_drop, List.length_take]; rfl)) ?_; (with_reducible refine (computusref17_Same.calls kj1 t339 _ _ t340 _ _ t343 t349 _ _ t350 _ _ t353 true _ ?side1 ?side2 ?side3 ?side4 ?side5 ?side6 ?side7 ?side8 A12.out).mono ?_); (case side1 => refine (Kd.R_reads' (e := 41) (base := w.heap.size) (ok := fun k_ => (True ∧ some k_ ≠ (.slice Ao26 t350.length co26 : Value).ownBlock)) (n := t340.length) (c := co20) ?_).2.2; exact (by (with_reducible repeat (first | apply Kd.R_alloc | apply Kd.R_drewN | apply Kd.R_drew)); exact (Kd.R_mono (Kd.R_far (p := ⟨gb358, 2, none⟩) (Kd.R_far (p := ⟨gb358, 1, none⟩) (Kd.R_far (p := ⟨gb358, 0, none⟩) (Kd.R_types HO342.out BK358.out (by decide)) (fun _ hk => hk.2) (.int .i64 t349)) (fun _ hk => hk.2) (.slice Ao26 t350.length co26)) (fun _ hk => hk.2) (.slice Ao27 t353.length co27)) (fun _ h_ => h_.1)))); (case side2 => exact (Kd.R_reads' HO342.out).2.1); (case side3 => refine (Kd.R_reads' (e := 43) (base := w.heap.size) (ok := fun k_ => (True ∧ some k_ ≠ (.slice Ao27 t353.length co27 : Value).ownBlock)) (n := t343.length) (c := co21) ?_).2.2; exact (by (with_reducible repeat (first | apply Kd.R_alloc | apply Kd.R_drewN | apply Kd.R_drew)); exact (Kd.R_mono (Kd.R_far (p := ⟨gb358, 2, none⟩) (Kd.R_far (p := ⟨gb358, 1, none⟩) (Kd.R_far (p := ⟨gb358, 0, none⟩) (Kd.R_types HO345.out BK358.out (by decide)) (fun _ hk => hk.2) (.int .i64 t349)) (fun _ hk => hk.2) (.slice Ao26 t350.length co26)) (fun _ hk => hk.2) (.slice Ao27 t353.length co27)) (fun _ h_ => h_.1)))); (case side4 => exact (Kd.R_reads' HO345.out).2.1); (case side5 => refine (Kd.R_reads' (e := 41) (base := w.heap.size) (ok := fun k_ => (True ∧ some k_ ≠ (.slice Ao20 t340.length co20 : Value).ownBlock)) (n := t350.length) (c := co26) ?_).2.2; exact (by (with_reducible repeat (first | apply Kd.R_alloc | apply Kd.R_drewN | apply Kd.R_drew)); exact (Kd.R_mono (Kd.R_far (p := ⟨gb358, 2, none⟩) (Kd.R_far (p := ⟨gb358, 1, none⟩) (Kd.R_far (p := ⟨gb358, 0, none⟩) (Kd.R_types HO352.out BK358.out (by decide)) (fun _ hk => hk.2) (.int .i64 t349)) (fun _ hk => hk.2) (.slice Ao26 t350.length co26)) (fun _ hk => hk.2) (.slice Ao27 t353.length co27)) (fun _ h_ => h_.1)))); (case side6 => exact (Kd.R_reads' HO352.out).2.1); (case side7 => refine (Kd.R_reads' (e := 43) (base := w.heap.size) (ok := fun k_ => (True ∧ some k_ ≠ (.slice Ao21 t343.length co21 : Value).ownBlock)) (n := t353.length) (c := co27) ?_).2.2; exact (by (with_reducible repeat (first | apply Kd.R_alloc | apply Kd.R_drewN | apply Kd.R_drew)); exact (Kd.R_mono (Kd.R_far (p := ⟨gb358, 2, none⟩) (Kd.R_far (p := ⟨gb358, 1, none⟩) (Kd.R_far (p := ⟨gb358, 0, none⟩) (Kd.R_types HO355.out BK358.out (by decide)) (fun _ hk => hk.2) (.int .i64 t349)) (fun _ hk => hk.2) (.slice Ao26 t350.length co26)) (fun _ hk => hk.2) (.slice Ao27 t353.length co27)) (fun _ h_ => h_.1)))); (case side8 => exact (Kd.R_reads' HO355.out).2.1); rintro e w29 ⟨rfl, hb⟩; refine ⟨_, rfl, ?_⟩; have n0_ := Aside0.mk (Kd.R_below (by (with_reducible repeat (first | apply Kd.R_alloc | apply Kd.R_drewN | apply Kd.R_drew)); exact (Kd.R_mono (Kd.R_far (p := ⟨gb358, 2, none⟩) (Kd.R_far (p := ⟨gb358, 1, none⟩) (Kd.R_far (p := ⟨gb358, 0, none⟩) (Kd.R_types HO342.out BK358.out (by decide)) (fun _ hk => hk.2) (.int .i64 t349)) (fun _ hk => hk.2) (.slice Ao26 t350.length co26)) (fun _ hk => hk.2) (.slice Ao27 t353.length co27)) (fun _ h_ => h_.1))) hb); have n1_ := Aside0.mk (Kd.R_below (by (with_reducible repeat (first | apply Kd.R_alloc | apply Kd.R_drewN | apply Kd.R_drew)); exact (Kd.R_mono (Kd.R_far (p := ⟨gb358, 2, none⟩) (Kd.R_far (p := ⟨gb358, 1, none⟩) (Kd.R_far (p := ⟨gb358, 0, none⟩) (Kd.R_types HO345.out BK358.out (by decide)) (fun _ hk => hk.2) (.int .i64 t349)) (fun _ hk => hk.2) (.slice Ao26 t350.length co26)) (fun _ hk => hk.2) (.slice Ao27 t353.length co27)) (fun _ h_ => h_.1))) hb); have n2_ := Aside0.mk (Kd.R_below (by (with_reducible repeat (first | apply Kd.R_alloc | apply Kd.R_drewN | apply Kd.R_drew)); exact (Kd.R_mono (Kd.R_far (p := ⟨gb358, 2, none⟩) (Kd.R_far (p := ⟨gb358, 1, none⟩) (Kd.R_far (p := ⟨gb358, 0, none⟩) (Kd.R_types HO352.out BK358.out (by decide)) (fun _ hk => hk.2) (.int .i64 t349)) (fun _ hk => hk.2) (.slice Ao26 t350.length co26)) (fun _ hk => hk.2) (.slice Ao27 t353.length co27)) (fun _ h_ => h_.1))) hb); have n3_ := Aside0.mk (Kd.R_below (by (with_reducible repeat (first | apply Kd.R_alloc | apply Kd.R_drewN | apply Kd.R_drew)); exact (Kd.R_mono (Kd.R_far (p := ⟨gb358, 2, none⟩) (Kd.R_far (p := ⟨gb358, 1, none⟩) (Kd.R_far (p := ⟨gb358, 0, none⟩) (Kd.R_types HO355.out BK358.out (by decide)) (fun _ hk => hk.2) (.int .i64 t349)) (fun _ hk => hk.2) (.slice Ao26 t350.length co26)) (fun _ hk => hk.2) (.slice Ao27 t353.length co27)) (fun _ h_ => h_.1))) hb); have n4_ := Aside0.mk (blk_below (g := gb348) (o := .cells #[.int .i64 t339, .slice Ao20 t340.length co20, .slice Ao21 t343.length co21] 26 (0, 0)) (by (with_reducible repeat (first | refine blk_drewN ?_ _ | refine blk_drew ?_ | refine blk_alloc ?_ _)); refine blk_far ?_ NB348_358.out _; (with_reducible repeat (first | refine blk_drewN ?_ _ | refine blk_drew ?_ | refine blk_alloc ?_ _)); refine blk_far ?_ NB348_358.out _; (with_reducible repeat (first | refine blk_drewN ?_ _ | refine blk_drew ?_ | refine blk_alloc ?_ _)); refine blk_far ?_ NB348_358.out _; (with_reducible repeat (first | refine blk_drewN ?_ _ | refine blk_drew ?_ | refine blk_alloc ?_ _)); exact BK348.out) hb); have n5_ := Aside0.mk (blk_below (g := gb358) (o := .cells #[.int .i64 t349, .slice Ao26 t350.length co26, .slice Ao27 t353.length co27] 26 (0, 0)) (by (with_reducible repeat (first | refine blk_drewN ?_ _ | refine blk_drew ?_ | refine blk_alloc ?_ _)); refine blk_put (cs := #[.int .i64 t349, .slice Ao26 t350.length co26, .slice none 0 0]) ?_ 2 _ rfl; (with_reducible repeat (first | refine blk_drewN ?_ _ | refine blk_drew ?_ | refine blk_alloc ?_ _)); refine blk_put (cs := #[.int .i64 t349, .slice none 0 0, .slice none 0 0]) ?_ 1 _ rfl; (with_reducible repeat (first | refine blk_drewN ?_ _ | refine blk_drew ?_ | refine blk_alloc ?_ _)); refine blk_put (cs := #[.int .i64 0, .slice none 0 0, .slice none 0 0]) ?_ 0 _ rfl; (with_reducible repeat (first | refine blk_drewN ?_ _ | refine blk_drew ?_ | refine blk_alloc ?_ _)); exact BK358.out) hb); have n6_ := Aside0.mk (below_step (by repeat (first | (with_reducible first | exact HB.out | apply below_alloc | apply pw_below_drewN | apply below_drew1 | refine below_set ?_ GE348.out | refine below_set ?_ GE358.out) | exact HB.out)) hb); clear HO342; clear HO345; clear HO352; clear HO355; clear BK348; clear BK358; clear HB; have HO342 := n0_; have HO345 := n1_; have HO352 := n2_; have HO355 := n3_; have BK348 := n4_; have BK358 := n5_; have HB := n6_; clear n0_ n1_ n2_ n3_ n4_ n5_ n6_; (try clear hb); (try clear hb2); (try clear hk); (try clear hi)))
        go_ret
        exact ⟨by first | rfl | (simp [errW_none, errW_some] <;> rfl) | (simp [*, errW_none, errW_some] <;> rfl), by repeat (first | (with_reducible first | exact HB.out | apply below_alloc | apply pw_below_drewN | apply below_drew1 | refine below_set ?_ GE348.out | refine below_set ?_ GE358.out) | exact HB.out)⟩
       ·rw [if_neg c16] at H
        have c16b0 : (t347 == 0) = false := beq_eq_false_iff_ne.mpr c16
        have hx_ : t357 = false := by simpa [c16b0] using c15b0
        subst hx_
        have c16b1 : (t347 != 0) = true := bne_iff_ne.mpr c16
        obtain rfl := Option.some.inj H
        go_wp2_with (first | ((with_reducible refine gate_callee (f := 9) rfl ?_); refine goesL_ (some 19) rfl rfl Tryd.func9 (by kernel_rfl) rfl #[.string a0] rfl (by (try simp only [List.map_toArray, List.map_cons, List.map_nil]); first | done | rfl | (simp only [List.length_drop, List.length_take]; rfl)) ?_; (with_reducible refine (cattext_Parse.calls (hT := Tabs.below HTAB.out (by repeat (first | (with_reducible first | exact HB.out | apply below_alloc | apply pw_below_drewN | apply below_drew1 | refine below_set ?_ (by assumption)) | exact HB.out))) a0 t339 t340 t343 t346 t347 _ A10.out).mono ?_); rintro e w30 ⟨v341, v344, rfl, ho0, ho1, hb⟩; refine ⟨_, rfl, ?_⟩; have n0_ := Aside0.mk (Kd.R_lower ho0 (below_size (by repeat (first | (with_reducible first | exact HB.out | apply below_alloc | apply pw_below_drewN | apply below_drew1) | exact HB.out)))); have n1_ := Aside0.mk (Kd.R_lower ho1 (below_size (by repeat (first | (with_reducible first | exact HB.out | apply below_alloc | apply pw_below_drewN | apply below_drew1) | exact HB.out)))); have n2_ := Aside0.mk (below_step (by repeat (first | (with_reducible first | exact HB.out | apply below_alloc | apply pw_below_drewN | apply below_drew1) | exact HB.out)) hb); clear HB; have HO342 := n0_; have HO345 := n1_; have HB := n2_; clear n0_ n1_ n2_; (try clear hb); (try clear hb2); (try clear hk); (try clear hi); (try clear ho0); (try clear ho1)) | ((with_reducible refine gate_dst (N := 3) rfl ?_); (try (refine gate_guard (by rfl) ?_; dsimp only)); refine box_event ?hg (N := 3) ?hd (cs := #[.int .i64 0, .slice none 0 0, .slice none 0 0]) (t := 26) ?hr ?_; (case hd => rfl); (case hg => rfl); (case hr => first | (go_simp; done) | (go_simp; rfl)); intro gb348 hg w31 hbox hb; have n0_ := Aside0.mk (Kd.R_below (by (with_reducible repeat (first | apply Kd.R_alloc | apply Kd.R_drewN | apply Kd.R_drew)); exact HO342.out) hb); have n1_ := Aside0.mk (Kd.R_below (by (with_reducible repeat (first | apply Kd.R_alloc | apply Kd.R_drewN | apply Kd.R_drew)); exact HO345.out) hb); have n2_ := Aside0.mk (below_step (by repeat (first | (with_reducible first | exact HB.out | apply below_alloc | apply pw_below_drewN | apply below_drew1) | exact HB.out)) hb); have n3_ := Aside0.mk (hbox); have n4_ := Aside0.mk ((by rw [hg]; exact (below_size (by repeat (first | (with_reducible first | exact HB.out | apply below_alloc | apply pw_below_drewN | apply below_drew1) | exact HB.out))) : w.heap.size ≤ gb348)); have n5_ := Aside0.mk ((by rw [hg]; exact (below_size (by repeat (first | (with_reducible first | exact HB.out | apply below_alloc | apply pw_below_drewN | apply below_drew1) | exact HB.out))) : w.heap.size ≤ gb348)); clear HO342; clear HO345; clear HB; have HO342 := n0_; have HO345 := n1_; have HB := n2_; have BK348 := n3_; have GW348 := n4_; have GE348 := n5_; clear n0_ n1_ n2_ n3_ n4_ n5_; clear hb hbox hg; have hcz32_0 : w31.cell? ⟨gb348, 0, none⟩ = some (.int .i64 0) := (blk_cell BK348.out 0).trans rfl; have hcz32_1 : w31.cell? ⟨gb348, 1, none⟩ = some (.slice none 0 0) := (blk_cell BK348.out 1).trans rfl; have hcz32_2 : w31.cell? ⟨gb348, 2, none⟩ = some (.slice none 0 0) := (blk_cell BK348.out 2).trans rfl; have hfz32_0 := blk_frozen BK348.out 0; have hfz32_1 := blk_frozen BK348.out 1; have hfz32_2 := blk_frozen BK348.out 2; obtain ⟨Ao33, co33, eo33⟩ := Kd.R_slice HO342.out; subst eo33; obtain ⟨Ao34, co34, eo34⟩ := Kd.R_slice HO345.out; subst eo34) | ((with_reducible refine gate_callee (f := 10) rfl ?_); refine goesL_ (some 25) rfl rfl Tryd.func10 (by kernel_rfl) rfl #[.string a0] rfl (by (try simp only [List.map_toArray, List.map_cons, List.map_nil]); first | done | rfl | (simp only [List.length_drop, List.length_take]; rfl)) ?_; (with_reducible refine (computusref26_Parse.calls kj1 a0 t349 t350 t353 t356 false _ A11.out).mono ?_); rintro e w35 ⟨v351, v354, rfl, ho0, ho1, hb⟩; refine ⟨_, rfl, ?_⟩; have n0_ := Aside0.mk (Kd.R_elder' (by (with_reducible repeat (first | apply Kd.R_alloc | apply Kd.R_drewN | apply Kd.R_drew)); exact (Kd.R_mono (Kd.R_far (p := ⟨gb348, 2, none⟩) (Kd.R_far (p := ⟨gb348, 1, none⟩) (Kd.R_far (p := ⟨gb348, 0, none⟩) (Kd.R_types HO342.out BK348.out (by decide)) (fun _ hk => hk.2) (.int .i64 t339)) (fun _ hk => hk.2) (.slice Ao33 t340.length co33)) (fun _ hk => hk.2) (.slice Ao34 t343.length co34)) (fun _ h_ => h_.1))) (Kd.R_base ho0) hb); have n1_ := Aside0.mk (Kd.R_elder' (by (with_reducible repeat (first | apply Kd.R_alloc | apply Kd.R_drewN | apply Kd.R_drew)); exact (Kd.R_mono (Kd.R_far (p := ⟨gb348, 2, none⟩) (Kd.R_far (p := ⟨gb348, 1, none⟩) (Kd.R_far (p := ⟨gb348, 0, none⟩) (Kd.R_types HO345.out BK348.out (by decide)) (fun _ hk => hk.2) (.int .i64 t339)) (fun _ hk => hk.2) (.slice Ao33 t340.length co33)) (fun _ hk => hk.2) (.slice Ao34 t343.length co34)) (fun _ h_ => h_.1))) (Kd.R_base ho1) hb); have n2_ := Aside0.mk (Kd.R_lower (Kd.R_new' ho0 (Kd.R_lt (by (with_reducible repeat (first | apply Kd.R_alloc | apply Kd.R_drewN | apply Kd.R_drew)); exact (Kd.R_mono (Kd.R_far (p := ⟨gb348, 2, none⟩) (Kd.R_far (p := ⟨gb348, 1, none⟩) (Kd.R_far (p := ⟨gb348, 0, none⟩) (Kd.R_types HO342.out BK348.out (by decide)) (fun _ hk => hk.2) (.int .i64 t339)) (fun _ hk => hk.2) (.slice Ao33 t340.length co33)) (fun _ hk => hk.2) (.slice Ao34 t343.length co34)) (fun _ h_ => h_.1))))) (below_size (by repeat (first | (with_reducible first | exact HB.out | apply below_alloc | apply pw_below_drewN | apply below_drew1 | refine below_set ?_ GE348.out) | exact HB.out)))); have n3_ := Aside0.mk (Kd.R_lower (Kd.R_new' ho1 (Kd.R_lt (by (with_reducible repeat (first | apply Kd.R_alloc | apply Kd.R_drewN | apply Kd.R_drew)); exact (Kd.R_mono (Kd.R_far (p := ⟨gb348, 2, none⟩) (Kd.R_far (p := ⟨gb348, 1, none⟩) (Kd.R_far (p := ⟨gb348, 0, none⟩) (Kd.R_types HO345.out BK348.out (by decide)) (fun _ hk => hk.2) (.int .i64 t339)) (fun _ hk => hk.2) (.slice Ao33 t340.length co33)) (fun _ hk => hk.2) (.slice Ao34 t343.length co34)) (fun _ h_ => h_.1))))) (below_size (by repeat (first | (with_reducible first | exact HB.out | apply below_alloc | apply pw_below_drewN | apply below_drew1 | refine below_set ?_ GE348.out) | exact HB.out)))); have n4_ := Aside0.mk (blk_below (g := gb348) (o := .cells #[.int .i64 t339, .slice Ao33 t340.length co33, .slice Ao34 t343.length co34] 26 (0, 0)) (by (with_reducible repeat (first | refine blk_drewN ?_ _ | refine blk_drew ?_ | refine blk_alloc ?_ _)); refine blk_put (cs := #[.int .i64 t339, .slice Ao33 t340.length co33, .slice none 0 0]) ?_ 2 _ rfl; (with_reducible repeat (first | refine blk_drewN ?_ _ | refine blk_drew ?_ | refine blk_alloc ?_ _)); refine blk_put (cs := #[.int .i64 t339, .slice none 0 0, .slice none 0 0]) ?_ 1 _ rfl; (with_reducible repeat (first | refine blk_drewN ?_ _ | refine blk_drew ?_ | refine blk_alloc ?_ _)); refine blk_put (cs := #[.int .i64 0, .slice none 0 0, .slice none 0 0]) ?_ 0 _ rfl; (with_reducible repeat (first | refine blk_drewN ?_ _ | refine blk_drew ?_ | refine blk_alloc ?_ _)); exact BK348.out) hb); have n5_ := Aside0.mk (below_step (by repeat (first | (with_reducible first | exact HB.out | apply below_alloc | apply pw_below_drewN | apply below_drew1 | refine below_set ?_ GE348.out) | exact HB.out)) hb); clear HO342; clear HO345; clear BK348; clear HB; have HO342 := n0_; have HO345 := n1_; have HO352 := n2_; have HO355 := n3_; have BK348 := n4_; have HB := n5_; clear n0_ n1_ n2_ n3_ n4_ n5_; (try clear hb); (try clear hb2); (try clear hk); (try clear hi); (try clear ho0); (try clear ho1)) | ((with_reducible refine gate_dst (N := 6) rfl ?_); (try (refine gate_guard (by rfl) ?_; dsimp only)); refine box_event ?hg (N := 6) ?hd (cs := #[.int .i64 0, .slice none 0 0, .slice none 0 0]) (t := 26) ?hr ?_; (case hd => rfl); (case hg => rfl); (case hr => first | (go_simp; done) | (go_simp; rfl)); intro gb358 hg w36 hbox hb; have n0_ := Aside0.mk (Kd.R_below (by (with_reducible repeat (first | apply Kd.R_alloc | apply Kd.R_drewN | apply Kd.R_drew)); exact HO342.out) hb); have n1_ := Aside0.mk (Kd.R_below (by (with_reducible repeat (first | apply Kd.R_alloc | apply Kd.R_drewN | apply Kd.R_drew)); exact HO345.out) hb); have n2_ := Aside0.mk (Kd.R_below (by (with_reducible repeat (first | apply Kd.R_alloc | apply Kd.R_drewN | apply Kd.R_drew)); exact HO352.out) hb); have n3_ := Aside0.mk (Kd.R_below (by (with_reducible repeat (first | apply Kd.R_alloc | apply Kd.R_drewN | apply Kd.R_drew)); exact HO355.out) hb); have n4_ := Aside0.mk (blk_below (g := gb348) (o := .cells #[.int .i64 t339, .slice Ao33 t340.length co33, .slice Ao34 t343.length co34] 26 (0, 0)) (by (with_reducible repeat (first | refine blk_drewN ?_ _ | refine blk_drew ?_ | refine blk_alloc ?_ _)); exact BK348.out) hb); have n5_ := Aside0.mk (below_step (by repeat (first | (with_reducible first | exact HB.out | apply below_alloc | apply pw_below_drewN | apply below_drew1 | refine below_set ?_ GE348.out) | exact HB.out)) hb); have n6_ := Aside0.mk (hbox); have n7_ := Aside0.mk ((by rw [hg]; exact (below_size (by repeat (first | (with_reducible first | exact HB.out | apply below_alloc | apply pw_below_drewN | apply below_drew1 | refine below_set ?_ GE348.out) | exact HB.out))) : w.heap.size ≤ gb358)); have n8_ := Aside0.mk ((by rw [hg]; exact (below_size (by repeat (first | (with_reducible first | exact HB.out | apply below_alloc | apply pw_below_drewN | apply below_drew1 | refine below_set ?_ GE348.out) | exact HB.out))) : w.heap.size ≤ gb358)); have n9_ := Aside0.mk ((by rw [hg]; exact Nat.ne_of_lt (blk_lt (g := gb348) (o := .cells #[.int .i64 t339, .slice Ao33 t340.length co33, .slice Ao34 t343.length co34] 26 (0, 0)) (by (with_reducible repeat (first | refine blk_drewN ?_ _ | refine blk_drew ?_ | refine blk_alloc ?_ _)); exact BK348.out)) : gb348 ≠ gb358)); have n10_ := Aside0.mk ((by rw [hg]; exact Nat.ne_of_gt (blk_lt (g := gb348) (o := .cells #[.int .i64 t339, .slice Ao33 t340.length co33, .slice Ao34 t343.length co34] 26 (0, 0)) (by (with_reducible repeat (first | refine blk_drewN ?_ _ | refine blk_drew ?_ | refine blk_alloc ?_ _)); exact BK348.out)) : gb358 ≠ gb348)); clear HO342; clear HO345; clear HO352; clear HO355; clear BK348; clear HB; have HO342 := n0_; have HO345 := n1_; have HO352 := n2_; have HO355 := n3_; have BK348 := n4_; have HB := n5_; have BK358 := n6_; have GW358 := n7_; have GE358 := n8_; have NB348_358 := n9_; have NB358_348 := n10_; clear n0_ n1_ n2_ n3_ n4_ n5_ n6_ n7_ n8_ n9_ n10_; clear hb hbox hg; have hnb37 := NB358_348.out; have hnc37 := NB348_358.out; have hcz38_0 : w36.cell? ⟨gb358, 0, none⟩ = some (.int .i64 0) := (blk_cell BK358.out 0).trans rfl; have hcz38_1 : w36.cell? ⟨gb358, 1, none⟩ = some (.slice none 0 0) := (blk_cell BK358.out 1).trans rfl; have hcz38_2 : w36.cell? ⟨gb358, 2, none⟩ = some (.slice none 0 0) := (blk_cell BK358.out 2).trans rfl; have hfz38_0 := blk_frozen BK358.out 0; have hfz38_1 := blk_frozen BK358.out 1; have hfz38_2 := blk_frozen BK358.out 2; obtain ⟨Ao39, co39, eo39⟩ := Kd.R_slice HO352.out; subst eo39; obtain ⟨Ao40, co40, eo40⟩ := Kd.R_slice HO355.out; subst eo40; have hcz41_0 : w36.cell? ⟨gb348, 0, none⟩ = some (.int .i64 t339) := (blk_cell BK348.out 0).trans rfl; have hcz41_1 : w36.cell? ⟨gb348, 1, none⟩ = some (.slice Ao33 t340.length co33) := (blk_cell BK348.out 1).trans rfl; have hcz41_2 : w36.cell? ⟨gb348, 2, none⟩ = some (.slice Ao34 t343.length co34) := (blk_cell BK348.out 2).trans rfl; have hfz41_0 := blk_frozen BK348.out 0; have hfz41_1 := blk_frozen BK348.out 1; have hfz41_2 := blk_frozen BK348.out 2) | ((with_reducible refine gate_callee (f := 11) rfl ?_); refine goesL_ (some 31) rfl rfl Tryd.func11 (by kernel_rfl) rfl #[.agg #[.int .i64 t339, .slice Ao33 t340.length co33, .slice Ao34 t343.length co34], .agg #[.int .i64 t349, .slice Ao39 t350.length co39, .slice Ao40 t353.length co40]] rfl (by (try simp only [List.map_toArray, List.map_cons, List.map_nil]); first | done | rfl | (simp only [List.length_drop, List.length_take]; rfl)) ?_; (with_reducible refine (computusref17_Same.calls kj1 t339 _ _ t340 _ _ t343 t349 _ _ t350 _ _ t353 true _ ?side1 ?side2 ?side3 ?side4 ?side5 ?side6 ?side7 ?side8 A12.out).mono ?_); (case side1 => refine (Kd.R_reads' (e := 41) (base := w.heap.size) (ok := fun k_ => (True ∧ some k_ ≠ (.slice Ao39 t350.length co39 : Value).ownBlock)) (n := t340.length) (c := co33) ?_).2.2; exact (by (with_reducible repeat (first | apply Kd.R_alloc | apply Kd.R_drewN | apply Kd.R_drew)); exact (Kd.R_mono (Kd.R_far (p := ⟨gb358, 2, none⟩) (Kd.R_far (p := ⟨gb358, 1, none⟩) (Kd.R_far (p := ⟨gb358, 0, none⟩) (Kd.R_types HO342.out BK358.out (by decide)) (fun _ hk => hk.2) (.int .i64 t349)) (fun _ hk => hk.2) (.slice Ao39 t350.length co39)) (fun _ hk => hk.2) (.slice Ao40 t353.length co40)) (fun _ h_ => h_.1)))); (case side2 => exact (Kd.R_reads' HO342.out).2.1); (case side3 => refine (Kd.R_reads' (e := 43) (base := w.heap.size) (ok := fun k_ => (True ∧ some k_ ≠ (.slice Ao40 t353.length co40 : Value).ownBlock)) (n := t343.length) (c := co34) ?_).2.2; exact (by (with_reducible repeat (first | apply Kd.R_alloc | apply Kd.R_drewN | apply Kd.R_drew)); exact (Kd.R_mono (Kd.R_far (p := ⟨gb358, 2, none⟩) (Kd.R_far (p := ⟨gb358, 1, none⟩) (Kd.R_far (p := ⟨gb358, 0, none⟩) (Kd.R_types HO345.out BK358.out (by decide)) (fun _ hk => hk.2) (.int .i64 t349)) (fun _ hk => hk.2) (.slice Ao39 t350.length co39)) (fun _ hk => hk.2) (.slice Ao40 t353.length co40)) (fun _ h_ => h_.1)))); (case side4 => exact (Kd.R_reads' HO345.out).2.1); (case side5 => refine (Kd.R_reads' (e := 41) (base := w.heap.size) (ok := fun k_ => (True ∧ some k_ ≠ (.slice Ao33 t340.length co33 : Value).ownBlock)) (n := t350.length) (c := co39) ?_).2.2; exact (by (with_reducible repeat (first | apply Kd.R_alloc | apply Kd.R_drewN | apply Kd.R_drew)); exact (Kd.R_mono (Kd.R_far (p := ⟨gb358, 2, none⟩) (Kd.R_far (p := ⟨gb358, 1, none⟩) (Kd.R_far (p := ⟨gb358, 0, none⟩) (Kd.R_types HO352.out BK358.out (by decide)) (fun _ hk => hk.2) (.int .i64 t349)) (fun _ hk => hk.2) (.slice Ao39 t350.length co39)) (fun _ hk => hk.2) (.slice Ao40 t353.length co40)) (fun _ h_ => h_.1)))); (case side6 => exact (Kd.R_reads' HO352.out).2.1); (case side7 => refine (Kd.R_reads' (e := 43) (base := w.heap.size) (ok := fun k_ => (True ∧ some k_ ≠ (.slice Ao34 t343.length co34 : Value).ownBlock)) (n := t353.length) (c := co40) ?_).2.2; exact (by (with_reducible repeat (first | apply Kd.R_alloc | apply Kd.R_drewN | apply Kd.R_drew)); exact (Kd.R_mono (Kd.R_far (p := ⟨gb358, 2, none⟩) (Kd.R_far (p := ⟨gb358, 1, none⟩) (Kd.R_far (p := ⟨gb358, 0, none⟩) (Kd.R_types HO355.out BK358.out (by decide)) (fun _ hk => hk.2) (.int .i64 t349)) (fun _ hk => hk.2) (.slice Ao39 t350.length co39)) (fun _ hk => hk.2) (.slice Ao40 t353.length co40)) (fun _ h_ => h_.1)))); (case side8 => exact (Kd.R_reads' HO355.out).2.1); rintro e w42 ⟨rfl, hb⟩; refine ⟨_, rfl, ?_⟩; have n0_ := Aside0.mk (Kd.R_below (by (with_reducible repeat (first | apply Kd.R_alloc | apply Kd.R_drewN | apply Kd.R_drew)); exact (Kd.R_mono (Kd.R_far (p := ⟨gb358, 2, none⟩) (Kd.R_far (p := ⟨gb358, 1, none⟩) (Kd.R_far (p := ⟨gb358, 0, none⟩) (Kd.R_types HO342.out BK358.out (by decide)) (fun _ hk => hk.2) (.int .i64 t349)) (fun _ hk => hk.2) (.slice Ao39 t350.length co39)) (fun _ hk => hk.2) (.slice Ao40 t353.length co40)) (fun _ h_ => h_.1))) hb); have n1_ := Aside0.mk (Kd.R_below (by (with_reducible repeat (first | apply Kd.R_alloc | apply Kd.R_drewN | apply Kd.R_drew)); exact (Kd.R_mono (Kd.R_far (p := ⟨gb358, 2, none⟩) (Kd.R_far (p := ⟨gb358, 1, none⟩) (Kd.R_far (p := ⟨gb358, 0, none⟩) (Kd.R_types HO345.out BK358.out (by decide)) (fun _ hk => hk.2) (.int .i64 t349)) (fun _ hk => hk.2) (.slice Ao39 t350.length co39)) (fun _ hk => hk.2) (.slice Ao40 t353.length co40)) (fun _ h_ => h_.1))) hb); have n2_ := Aside0.mk (Kd.R_below (by (with_reducible repeat (first | apply Kd.R_alloc | apply Kd.R_drewN | apply Kd.R_drew)); exact (Kd.R_mono (Kd.R_far (p := ⟨gb358, 2, none⟩) (Kd.R_far (p := ⟨gb358, 1, none⟩) (Kd.R_far (p := ⟨gb358, 0, none⟩) (Kd.R_types HO352.out BK358.out (by decide)) (fun _ hk => hk.2) (.int .i64 t349)) (fun _ hk => hk.2) (.slice Ao39 t350.length co39)) (fun _ hk => hk.2) (.slice Ao40 t353.length co40)) (fun _ h_ => h_.1))) hb); have n3_ := Aside0.mk (Kd.R_below (by (with_reducible repeat (first | apply Kd.R_alloc | apply Kd.R_drewN | apply Kd.R_drew)); exact (Kd.R_mono (Kd.R_far (p := ⟨gb358, 2, none⟩) (Kd.R_far (p := ⟨gb358, 1, none⟩) (Kd.R_far (p := ⟨gb358, 0, none⟩) (Kd.R_types HO355.out BK358.out (by decide)) (fun _ hk => hk.2) (.int .i64 t349)) (fun _ hk => hk.2) (.slice Ao39 t350.length co39)) (fun _ hk => hk.2) (.slice Ao40 t353.length co40)) (fun _ h_ => h_.1))) hb); have n4_ := Aside0.mk (blk_below (g := gb348) (o := .cells #[.int .i64 t339, .slice Ao33 t340.length co33, .slice Ao34 t343.length co34] 26 (0, 0)) (by (with_reducible repeat (first | refine blk_drewN ?_ _ | refine blk_drew ?_ | refine blk_alloc ?_ _)); refine blk_far ?_ NB348_358.out _; (with_reducible repeat (first | refine blk_drewN ?_ _ | refine blk_drew ?_ | refine blk_alloc ?_ _)); refine blk_far ?_ NB348_358.out _; (with_reducible repeat (first | refine blk_drewN ?_ _ | refine blk_drew ?_ | refine blk_alloc ?_ _)); refine blk_far ?_ NB348_358.out _; (with_reducible repeat (first | refine blk_drewN ?_ _ | refine blk_drew ?_ | refine blk_alloc ?_ _)); exact BK348.out) hb); have n5_ := Aside0.mk (blk_below (g := gb358) (o := .cells #[.int .i64 t349, .slice Ao39 t350.length co39, .slice Ao40 t353.length co40] 26 (0, 0)) (by (with_reducible repeat (first | refine blk_drewN ?_ _ | refine blk_drew ?_ | refine blk_alloc ?_ _)); refine blk_put (cs := #[.int .i64 t349, .slice Ao39 t350.length co39, .slice none 0 0]) ?_ 2 _ rfl; (with_reducible repeat (first | refine blk_drewN ?_ _ | refine blk_drew ?_ | refine blk_alloc ?_ _)); refine blk_put (cs := #[.int .i64 t349, .slice none 0 0, .slice none 0 0]) ?_ 1 _ rfl; (with_reducible repeat (first | refine blk_drewN ?_ _ | refine blk_drew ?_ | refine blk_alloc ?_ _)); refine blk_put (cs := #[.int .i64 0, .slice none 0 0, .slice none 0 0]) ?_ 0 _ rfl; (with_reducible repeat (first | refine blk_drewN ?_ _ | refine blk_drew ?_ | refine blk_alloc ?_ _)); exact BK358.out) hb); have n6_ := Aside0.mk (below_step (by repeat (first | (with_reducible first | exact HB.out | apply below_alloc | apply pw_below_drewN | apply below_drew1 | refine below_set ?_ GE348.out | refine below_set ?_ GE358.out) | exact HB.out)) hb); clear HO342; clear HO345; clear HO352; clear HO355; clear BK348; clear BK358; clear HB; have HO342 := n0_; have HO345 := n1_; have HO352 := n2_; have HO355 := n3_; have BK348 := n4_; have BK358 := n5_; have HB := n6_; clear n0_ n1_ n2_ n3_ n4_ n5_ n6_; (try clear hb); (try clear hb2); (try clear hk); (try clear hi)))
        go_ret
        exact ⟨by first | rfl | (simp [errW_none, errW_some] <;> rfl) | (simp [*, errW_none, errW_some] <;> rfl), by repeat (first | (with_reducible first | exact HB.out | apply below_alloc | apply pw_below_drewN | apply below_drew1 | refine below_set ?_ GE348.out | refine below_set ?_ GE358.out) | exact HB.out)⟩
      ·rw [if_neg c15] at H
       exact absurd H (by simp)
     ·rw [if_neg c14] at H
      exact absurd H (by simp)
    ·replace c13 := Bool.eq_false_iff.mpr c13
     subst c13
     have H1 : (none) = some r := by rw [if_neg (show ¬ (false = true) by decide)] at H; exact H
     clear H
     have H := H1
     clear H1
     exact absurd H (by simp)
def computuslaw26_CattextMatchesReference.Pure : Prop := ∀ (a0 : ByteArray), a0.size ≤ 140737488351232 → ∃ k, computuslaw26_CattextMatchesReference.f k a0 = some true
end Go.Proofs.YtlfokdbnbmebiaaDoor.Q
end
section
namespace Go.Proofs.YtlfokdbnbmebiaaDoor.Q
open Go.RowKit Go.Proofs.YtlfokdbnbmebiaaDoorW.PrintWords Go.Proofs.YtlfokdbnbmebiaaDoorW.PrintLast
set_option maxRecDepth 100000
theorem aw26 : computuslaw26_awake.f = some true := by decide +kernel
theorem same_l1 (fr : Int) (ls : List S41) (lf : List S43) (h : lf.length ≤ 1000000000) : ∀ d i : Nat, i + d = lf.length → Ev (fun k => computusref17_Same.l1 k (i : Int) fr ls lf fr ls lf) true
 | 0, i, hi => Ev.step (fun k => computusref17_Same.l1.eq_2 ..) (Ev.congr (fun k => if_neg (by omega)) (Ev.now _))
 | d + 1, i, hi => by
  refine Ev.step (fun k => computusref17_Same.l1.eq_2 ..) (Ev.congr (fun k => (if_pos (by omega)).trans ((if_pos (by omega)).trans ((if_pos (by omega)).trans (if_neg (by simp))))) ?_)
  rw [wN i (by omega)]
  exact same_l1 fr ls lf h d (i + 1) (by omega)
theorem same_l0 (fr : Int) (ls : List S41) (lf : List S43) (h : lf.length ≤ 1000000000) (h2 : ls.length ≤ 1000000000) : ∀ d i : Nat, i + d = ls.length → Ev (fun k => computusref17_Same.l0 k (i : Int) fr ls lf fr ls lf) true
 | 0, i, hi => Ev.step (fun k => computusref17_Same.l0.eq_2 ..) (Ev.congr (fun k => if_neg (by omega)) (same_l1 fr ls lf h lf.length 0 (by omega)))
 | d + 1, i, hi => by
  refine Ev.step (fun k => computusref17_Same.l0.eq_2 ..) (Ev.congr (fun k => (if_pos (by omega)).trans ((if_pos (by omega)).trans ((if_pos (by omega)).trans (if_neg (by simp))))) ?_)
  rw [wN i (by omega)]
  exact same_l0 fr ls lf h h2 d (i + 1) (by omega)
theorem same_ev (fr : Int) (ls : List S41) (lf : List S43) (h : lf.length ≤ 1000000000) (h2 : ls.length ≤ 1000000000) : Ev (fun k => computusref17_Same.f k fr ls lf fr ls lf) true := by
 unfold computusref17_Same.f
 refine Ev.congr (fun k => (if_pos rfl).trans (if_pos rfl)) ?_
 refine Ev.step (fun k => computusref17_Same.j0.eq_2 ..) (Ev.congr (fun k => if_neg (by simp)) (same_l0 fr ls lf h h2 ls.length 0 (by omega)))
end Go.Proofs.YtlfokdbnbmebiaaDoor.Q
namespace Go.Proofs.YtlfokdbnbmebiaaDoor.Pure
open Go.RowKit Go.Proofs.YtlfokdbnbmebiaaDoorW.PrintWords Go.Proofs.YtlfokdbnbmebiaaDoorW.PrintLast Go.Proofs.YtlfokdbnbmebiaaDoor.Q
theorem CattextMatchesReference : Q.computuslaw26_CattextMatchesReference.Pure := by
 intro a0 ha
 refine Ev.rounds (g := fun k => computuslaw26_CattextMatchesReference.f k a0) ?_
 unfold computuslaw26_CattextMatchesReference.f
 rw [aw26]
 show Ev (fun k => computuslaw26_CattextMatchesReference.j0 k a0 (decide ((a0.size : Int) > 5000))) true
 refine Ev.step (fun k => computuslaw26_CattextMatchesReference.j0.eq_2 ..) ?_
 by_cases h : (a0.size : Int) > 5000
 ·refine Ev.congr (fun k => if_pos (by simpa using h)) ?_
  rw [aw26]
  exact Ev.now _
 ·refine Ev.congr (fun k => if_neg (by simpa using h)) ?_
  have hp : cattext_Parse.f a0 = some (catP a0) := if_pos (by omega)
  rw [hp]
  have hl := catL_len a0 (a0.size + 2) 3 [] [] (scW a0 wNl (pcN a0 (scW a0 wHead (0, false)).2).2).2
  change Ev (fun k => (computusref26_Parse.f k a0).bind _) true
  refine Ev.bind (rpParse (by omega)) ?_
  unfold catP catR
  by_cases hb : (pcCat a0 (0, false)).2.2.2.2 = true
  ·rw [if_pos hb, if_pos hb]
   exact Ev.bind (same_ev 0 [] [] (by simp) (by simp)) (Ev.congr (fun k => (if_pos rfl).trans ((if_pos rfl).trans ((if_pos rfl).trans (if_neg (by show ¬ (6 : Int) = 0; decide))))) (Ev.now _))
  ·rw [if_neg hb, if_neg hb]
   have h1 : (pcCat a0 (0, false)).2.1.length + (pcCat a0 (0, false)).2.2.1.length ≤ 0 + 0 + (a0.size + 2) := hl
   exact Ev.bind (same_ev (pcCat a0 (0, false)).1 (pcCat a0 (0, false)).2.1 (pcCat a0 (0, false)).2.2.1 (by omega) (by omega)) (Ev.congr (fun k => (if_pos rfl).trans ((if_pos rfl).trans ((if_pos rfl).trans (if_pos rfl)))) (Ev.now _))
end Go.Proofs.YtlfokdbnbmebiaaDoor.Pure
end
section
namespace Go.Proofs.YtlfokdbnbmebiaaDoor.Q
open Go.RowKit Go.Proofs.YtlfokdbnbmebiaaDoorW.PrintWords Go.Proofs.YtlfokdbnbmebiaaDoorW.PrintLast Go.Proofs.YtlfokdbnbmebiaaDoorW.PrintMore
attribute [local go_sem] max2_int min2_int max_two min_two max_three min_three max_four min_four
mutual
def computuslaw26_CattextLines.j0 : Nat → Bool → Int → List (S41) → List (S43) → Option (Bool)
 | 0, _, _, _, _ => none
 | k + 1, x17, x472000, x472001, x472002 => if x17 = true then ((computuslaw26_awake.f).bind fun t475 => (some t475)) else ((cattext_Print.f x472000 x472001 x472002).bind fun t476 => (computuslaw26_CattextLines.l0 k t476 0 0 x472000 x472001 x472002))
def computuslaw26_CattextLines.l0 : Nat → ByteArray → Int → Int → Int → List (S41) → List (S43) → Option (Bool)
 | 0, _, _, _, _, _, _ => none
 | k + 1, x3, x4, x5, x472000, x472001, x472002 => if x5 < (x3.size : Int) then (if 0 ≤ x5 then (if (bt x3 x5) = 10 then (computuslaw26_CattextLines.l0 k x3 (wrap64 (x4 + 1)) (wrap64 (x5 + 1)) x472000 x472001 x472002) else (computuslaw26_CattextLines.l0 k x3 x4 (wrap64 (x5 + 1)) x472000 x472001 x472002)) else (none)) else (if x4 = (wrap64 ((wrap64 (3 + (x472001.length : Int))) + (x472002.length : Int))) then (if 0 ≤ (wrap64 ((x3.size : Int) - 1)) then (if (wrap64 ((x3.size : Int) - 1)) < (x3.size : Int) then (some ((bt x3 (wrap64 ((x3.size : Int) - 1))) == 10)) else (none)) else (none)) else (none))
end
def computuslaw26_CattextLines.f (k : Nat) (a0_0 : Int) (l0_1 : List (S41)) (l0_2 : List (S43)) : Option (Bool) := (computuslaw26_awake.f).bind fun t472 => (if t472 = true then ((computuslaw26_few.f a0_0 l0_1 l0_2).bind fun t473 => (if t473 = true then ((computusref26_Printable.f k a0_0 l0_1 l0_2).bind fun t474 => (computuslaw26_CattextLines.j0 k (!t474) a0_0 l0_1 l0_2)) else (computuslaw26_CattextLines.j0 k true a0_0 l0_1 l0_2))) else (computuslaw26_CattextLines.j0 k true a0_0 l0_1 l0_2))
theorem computuslaw26_CattextLines.calls (k : Nat) (a0_0 : Int) (A0_1 : Option Addr) (c0_1 : Nat) (l0_1 : List (S41)) (A0_2 : Option Addr) (c0_2 : Nat) (l0_2 : List (S43)) (r : Bool) (w : World) (hr0_1 : Kd.C k41 w A0_1 l0_1.length l0_1) (hc0_1 : l0_1.length ≤ c0_1) (hr0_2 : Kd.C k43 w A0_2 l0_2.length l0_2) (hc0_2 : l0_2.length ≤ c0_2) (hT : Tabs w) (h : computuslaw26_CattextLines.f k a0_0 l0_1 l0_2 = some r) :
  Calls Tryd.prog 7 #[.agg #[.int .i64 a0_0, .slice A0_1 l0_1.length c0_1, .slice A0_2 l0_2.length c0_2]] w fun e w' => e = .returned (.bool r) ∧ Below w.heap.size w w' := by
 have HTAB := am_ hT
 clear hT
 have hu26 := Tryd.underlying26
 have HR0_1 := am_ hr0_1
 have HC0_1 := am_ hc0_1
 clear hr0_1 hc0_1
 have HR0_2 := am_ hr0_2
 have HC0_2 := am_ hc0_2
 clear hr0_2 hc0_2
 have HB := am_ (Below.refl w.heap.size w)
 have H := h
 clear h
 unfold computuslaw26_CattextLines.f at H
 have HC2 := am_ H
 clear H
 go_enter Tryd.func7, Tryd.ntmps7
 go_upto_region 1 with (first | ((with_reducible refine gate_dst (N := 1) rfl ?_); (try (refine gate_guard (by rfl) ?_; dsimp only)); refine bx_ (w := w) (N := 1) (cs := #[.int .i64 a0_0, .slice A0_1 l0_1.length c0_1, .slice A0_2 l0_2.length c0_2]) (t := 26) ?_; intro gb471 w3 BK471 n0_ GW471 GE471; clear HB; have HB := n0_; clear n0_))
 (try simp only [Act.put, sA_, sZ_, sS_])
 go_cut [17] (fun v17 wc => ∃ (kq : Nat) (x17_1 : Bool), v17 = .bool x17_1 ∧ Aside0 (computuslaw26_CattextLines.j0 kq x17_1 a0_0 l0_1 l0_2 = some r) ∧ Aside0 (kq ≤ k) ∧ Aside0 (wc.heap[gb471]? = some (.cells #[.int .i64 a0_0, (.slice A0_1 l0_1.length c0_1), (.slice A0_2 l0_2.length c0_2)] 26 (0, 0))) ∧ Aside0 (Below w.heap.size w wc))
 case first =>
  have H := HC2.out
  clear HC2
  obtain ⟨t472, A4, H⟩ := bs_ H
  by_cases c5 : t472 = true
  rotate_left
  ·replace c5 := Bool.eq_false_iff.mpr c5
   subst c5
   replace H := if_ H
   have H' := am_ H
   clear H
   go_wp2_with (first | ((with_reducible refine gate_callee (f := 8) rfl ?_); refine goesL_ (some 6) rfl rfl Tryd.func8 (by kernel_rfl) rfl #[] rfl (by (try simp only [List.map_toArray, List.map_cons, List.map_nil]); first | done | rfl | (simp only [List.length_drop, List.length_take]; rfl)) ?_; (with_reducible refine (computuslaw26_awake.calls (hT := Tabs.below HTAB.out (by repeat (first | (with_reducible first | exact HB.out | apply below_alloc | apply pw_below_drewN | apply below_drew1 | refine below_set ?_ (by assumption)) | exact HB.out)))  false _ A4.out).mono ?_); rintro e w17 ⟨rfl, hb⟩; refine ⟨_, rfl, ?_⟩; replace BK471 := bw_ BK471 hb; replace HB := bt_ hb; (try clear hb); (try clear hi)))
   go_meet
   case rel => exact ⟨_, (true), rs_, H', ⟨by first | omega | exact Nat.le_refl _⟩, ⟨bk_ BK471.out⟩, ⟨bh_⟩⟩
  subst c5
  replace H := it_ H
  obtain ⟨t473, A6, H⟩ := bs_ H
  by_cases c7 : t473 = true
  rotate_left
  ·replace c7 := Bool.eq_false_iff.mpr c7
   subst c7
   replace H := if_ H
   have H' := am_ H
   clear H
   go_wp2_with (first | ((with_reducible refine gate_callee (f := 8) rfl ?_); refine goesL_ (some 6) rfl rfl Tryd.func8 (by kernel_rfl) rfl #[] rfl (by (try simp only [List.map_toArray, List.map_cons, List.map_nil]); first | done | rfl | (simp only [List.length_drop, List.length_take]; rfl)) ?_; (with_reducible refine (computuslaw26_awake.calls (hT := Tabs.below HTAB.out (by repeat (first | (with_reducible first | exact HB.out | apply below_alloc | apply pw_below_drewN | apply below_drew1 | refine below_set ?_ (by assumption)) | exact HB.out)))  true _ A4.out).mono ?_); rintro e w14 ⟨rfl, hb⟩; refine ⟨_, rfl, ?_⟩; replace BK471 := bw_ BK471 hb; replace HB := bt_ hb; (try clear hb); obtain ⟨hcz15_0, hcz15_1, hcz15_2⟩ := cz3_ BK471.out; obtain ⟨hfz15_0, hfz15_1, hfz15_2⟩ := fz3_ BK471.out) | (go_at_call 12; (with_reducible refine (computuslaw26_few.calls a0_0 _ _ l0_1 _ _ l0_2 false _ ?side1 ?side2 ?side3 ?side4 A6.out).mono ?_); (case side1 => exact ck_ (Kd.C_below HR0_1.out HB.out)); (case side2 => exact HC0_1.out); (case side3 => exact ck_ (Kd.C_below HR0_2.out HB.out)); (case side4 => exact HC0_2.out); rintro e w16 ⟨rfl, hb⟩; replace BK471 := bw_ BK471 hb; replace HB := bt_ hb; (try clear hb); (try clear hi)))
   go_meet
   case rel => exact ⟨_, (true), rs_, H', ⟨by first | omega | exact Nat.le_refl _⟩, ⟨bk_ BK471.out⟩, ⟨bh_⟩⟩
  subst c7
  replace H := it_ H
  obtain ⟨t474, A8, H⟩ := bs_ H
  have H' := am_ H
  clear H
  go_wp2_with (first | ((with_reducible refine gate_callee (f := 8) rfl ?_); refine goesL_ (some 6) rfl rfl Tryd.func8 (by kernel_rfl) rfl #[] rfl (by (try simp only [List.map_toArray, List.map_cons, List.map_nil]); first | done | rfl | (simp only [List.length_drop, List.length_take]; rfl)) ?_; (with_reducible refine (computuslaw26_awake.calls (hT := Tabs.below HTAB.out (by repeat (first | (with_reducible first | exact HB.out | apply below_alloc | apply pw_below_drewN | apply below_drew1 | refine below_set ?_ (by assumption)) | exact HB.out)))  true _ A4.out).mono ?_); rintro e w9 ⟨rfl, hb⟩; refine ⟨_, rfl, ?_⟩; replace BK471 := bw_ BK471 hb; replace HB := bt_ hb; (try clear hb); obtain ⟨hcz10_0, hcz10_1, hcz10_2⟩ := cz3_ BK471.out; obtain ⟨hfz10_0, hfz10_1, hfz10_2⟩ := fz3_ BK471.out) | (go_at_call 12; (with_reducible refine (computuslaw26_few.calls a0_0 _ _ l0_1 _ _ l0_2 true _ ?side1 ?side2 ?side3 ?side4 A6.out).mono ?_); (case side1 => exact ck_ (Kd.C_below HR0_1.out HB.out)); (case side2 => exact HC0_1.out); (case side3 => exact ck_ (Kd.C_below HR0_2.out HB.out)); (case side4 => exact HC0_2.out); rintro e w11 ⟨rfl, hb⟩; replace BK471 := bw_ BK471 hb; replace HB := bt_ hb; (try clear hb); obtain ⟨hcz12_0, hcz12_1, hcz12_2⟩ := cz3_ BK471.out; obtain ⟨hfz12_0, hfz12_1, hfz12_2⟩ := fz3_ BK471.out) | (go_at_call 13; (with_reducible refine (computusref26_Printable.calls k a0_0 _ _ l0_1 _ _ l0_2 t474 _ ?side1 ?side2 ?side3 ?side4 A8.out).mono ?_); (case side1 => exact ck_ (Kd.C_below HR0_1.out HB.out)); (case side2 => exact HC0_1.out); (case side3 => exact ck_ (Kd.C_below HR0_2.out HB.out)); (case side4 => exact HC0_2.out); rintro e w13 ⟨rfl, hb⟩; replace BK471 := bw_ BK471 hb; replace HB := bt_ hb; (try clear hb); (try clear hi)))
  go_meet
  case rel => exact ⟨_, (!t474), rs_, H', ⟨by first | omega | exact Nat.le_refl _⟩, ⟨bk_ BK471.out⟩, ⟨bh_⟩⟩
 case rest =>
  clear HC2
  obtain ⟨kq, x17_1, rfl, HA, HJ1, BK471, HB⟩ := hcut
  cases kq with
  | zero => exact absurd HA.out (by simp [computuslaw26_CattextLines.j0])
  | succ kj1 =>
   have H := HA.out
   clear HA
   simp only [computuslaw26_CattextLines.j0] at H
   by_cases c18 : x17_1 = true
   ·subst c18
    replace H := it_ H
    obtain ⟨t475, A19, H⟩ := bs_ H
    obtain rfl := Option.some.inj H
    go_wp2_with (first | ((with_reducible refine gate_callee (f := 8) rfl ?_); refine goesL_ (some 18) rfl rfl Tryd.func8 (by kernel_rfl) rfl #[] rfl (by (try simp only [List.map_toArray, List.map_cons, List.map_nil]); first | done | rfl | (simp only [List.length_drop, List.length_take]; rfl)) ?_; (with_reducible refine (computuslaw26_awake.calls (hT := Tabs.below HTAB.out (by repeat (first | (with_reducible first | exact HB.out | apply below_alloc | apply pw_below_drewN | apply below_drew1 | refine below_set ?_ (by assumption)) | exact HB.out)))  t475 _ A19.out).mono ?_); rintro e w20 ⟨rfl, hb⟩; refine ⟨_, rfl, ?_⟩; replace BK471 := bw_ BK471 hb; replace HB := bt_ hb; (try clear hb); (try clear hi)))
    go_ret
    exact rt_
   replace c18 := Bool.eq_false_iff.mpr c18
   subst c18
   replace H := if_ H
   obtain ⟨t476, A21, H⟩ := bs_ H
   have H' := am_ H
   clear H
   obtain ⟨hcz22_0, hcz22_1, hcz22_2⟩ := cz3_ BK471.out
   obtain ⟨hfz22_0, hfz22_1, hfz22_2⟩ := fz3_ BK471.out
   go_wp2_with (first | ((with_reducible refine gate_callee (f := 14) rfl ?_); refine goesL_ (some 20) rfl rfl Tryd.func14 (by kernel_rfl) rfl #[.agg #[.int .i64 a0_0, .slice A0_1 l0_1.length c0_1, .slice A0_2 l0_2.length c0_2]] rfl (by (try simp only [List.map_toArray, List.map_cons, List.map_nil]); first | done | rfl | (simp only [List.length_drop, List.length_take]; rfl)) ?_; (with_reducible refine (cattext_Print.calls (hT := Tabs.below HTAB.out (by repeat (first | (with_reducible first | exact HB.out | apply below_alloc | apply pw_below_drewN | apply below_drew1 | refine below_set ?_ (by assumption)) | exact HB.out))) a0_0 _ _ l0_1 _ _ l0_2 t476 _ ?side1 ?side2 ?side3 ?side4 A21.out).mono ?_); (case side1 => exact ck_ (Kd.C_below HR0_1.out HB.out)); (case side2 => exact HC0_1.out); (case side3 => exact ck_ (Kd.C_below HR0_2.out HB.out)); (case side4 => exact HC0_2.out); rintro e w23 ⟨rfl, hb⟩; refine ⟨_, rfl, ?_⟩; replace BK471 := bw_ BK471 hb; replace HB := bt_ hb; (try clear hb); (try clear hi)))
   go_loopg [4, 5] kj1 (fun kq v4 v5 w' => ∃ (x4_2 : Int) (x5_2 : Int), v4 = .int .i64 x4_2 ∧ v5 = .int .i64 x5_2 ∧ Aside0 (computuslaw26_CattextLines.l0 kq t476 x4_2 x5_2 a0_0 l0_1 l0_2 = some r) ∧ Aside0 (kq ≤ kj1) ∧ Aside0 (w'.heap[gb471]? = some (.cells #[.int .i64 a0_0, (.slice A0_1 l0_1.length c0_1), (.slice A0_2 l0_2.length c0_2)] 26 (0, 0))) ∧ Aside0 (Below w.heap.size w w'))
   case atStart => exact ⟨(0), (0), rs_, rs_, H', ⟨Nat.le_refl _⟩, ⟨bk_ BK471.out⟩, ⟨bh_⟩⟩
   case round =>
    clear H'
    obtain ⟨x4_2, x5_2, rfl, rfl, HA, HK2, BK471, HB⟩ := hrel
    cases gk with
    | zero => exact absurd HA.out (by simp [computuslaw26_CattextLines.l0])
    | succ k2 =>
     have H := HA.out
     clear HA
     simp only [computuslaw26_CattextLines.l0] at H
     by_cases c24 : x5_2 < (t476.size : Int)
     ·rw [if_pos c24] at H
      have c24b0 : decide (x5_2 < (t476.size : Int)) = true := decide_eq_true c24
      clear c24
      by_cases c25 : 0 ≤ x5_2
      rotate_left
      ·rw [if_neg c25] at H
       exact absurd H (by simp)
      rw [if_pos c25] at H
      have c25b0 : decide (0 ≤ x5_2) = true := decide_eq_true c25
      clear c25
      by_cases c27 : (bt t476 x5_2) = 10
      rotate_left
      ·rw [if_neg c27] at H
       have c27b0 : ((bt t476 x5_2) == 10) = false := beq_eq_false_iff_ne.mpr c27
       have c27b1 : ((bt t476 x5_2) != 10) = true := bne_iff_ne.mpr c27
       have H' := am_ H
       clear H
       have p26 : 0 ≤ (x5_2 : Int) := of_decide_eq_true as_
       have q26 : x5_2 < (t476.size : Int) := of_decide_eq_true as_
       have hx26 := bt_at t476 x5_2
       replace p26 := eq_true p26
       replace q26 := eq_true q26
       go_wp2
       go_roundg k2
       case measure => have := HJ1.out; have := HK2.out; omega
       case rel => exact ⟨(x4_2), (wrap64 (x5_2 + 1)), rs_, rs_, H', ⟨by have := HJ1.out; have := HK2.out; omega⟩, ⟨bk_ BK471.out⟩, ⟨bh_⟩⟩
      rw [if_pos c27] at H
      have c27b0 : ((bt t476 x5_2) == 10) = true := beq_iff_eq.mpr c27
      have c27b1 : ((bt t476 x5_2) != 10) = false := bne_eq_false_iff_eq.mpr c27
      clear c27
      have H' := am_ H
      clear H
      have p26 : 0 ≤ (x5_2 : Int) := of_decide_eq_true as_
      have q26 : x5_2 < (t476.size : Int) := of_decide_eq_true as_
      have hx26 := bt_at t476 x5_2
      replace p26 := eq_true p26
      replace q26 := eq_true q26
      go_wp2
      go_roundg k2
      case measure => have := HJ1.out; have := HK2.out; omega
      case rel => exact ⟨(wrap64 (x4_2 + 1)), (wrap64 (x5_2 + 1)), rs_, rs_, H', ⟨by have := HJ1.out; have := HK2.out; omega⟩, ⟨bk_ BK471.out⟩, ⟨bh_⟩⟩
     rw [if_neg c24] at H
     have c24b0 : decide (x5_2 < (t476.size : Int)) = false := decide_eq_false c24
     clear c24
     by_cases c28 : x4_2 = (wrap64 ((wrap64 (3 + (l0_1.length : Int))) + (l0_2.length : Int)))
     rotate_left
     ·rw [if_neg c28] at H
      exact absurd H (by simp)
     rw [if_pos c28] at H
     have c28b0 : (x4_2 == (wrap64 ((wrap64 (3 + (l0_1.length : Int))) + (l0_2.length : Int)))) = true := beq_iff_eq.mpr c28
     have c28b1 : (x4_2 != (wrap64 ((wrap64 (3 + (l0_1.length : Int))) + (l0_2.length : Int)))) = false := bne_eq_false_iff_eq.mpr c28
     clear c28
     obtain ⟨ji29, hji29⟩ : ∃ j_ : Int, (wrap64 ((t476.size : Int) - 1)) = j_ := ⟨_, rfl⟩
     replace H : (if 0 ≤ (ji29) then (if (ji29) < (t476.size : Int) then (some ((bt t476 (ji29)) == 10)) else (none)) else (none)) = some r := by first | (rw [hji29] at H; exact H) | (simp only [hji29] at H ⊢; exact H)
     have hji29w : (IntKind.i64.wrap ((t476.size : Int) - 1)) = ji29 := (i64_w _).trans hji29
     by_cases c30 : 0 ≤ (ji29)
     rotate_left
     ·rw [if_neg c30] at H
      exact absurd H (by simp)
     rw [if_pos c30] at H
     have c30b0 : decide (0 ≤ (ji29)) = true := decide_eq_true c30
     clear c30
     by_cases c31 : (ji29) < (t476.size : Int)
     rotate_left
     ·rw [if_neg c31] at H
      exact absurd H (by simp)
     rw [if_pos c31] at H
     have c31b0 : decide ((ji29) < (t476.size : Int)) = true := decide_eq_true c31
     clear c31
     obtain rfl := Option.some.inj H
     obtain ⟨hcz33_0, hcz33_1, hcz33_2⟩ := cz3_ BK471.out
     obtain ⟨hfz33_0, hfz33_1, hfz33_2⟩ := fz3_ BK471.out
     have p32 : 0 ≤ ((ji29) : Int) := of_decide_eq_true as_
     have q32 : (ji29) < (t476.size : Int) := of_decide_eq_true as_
     have hx32 := bt_at t476 (ji29)
     replace p32 := eq_true p32
     replace q32 := eq_true q32
     go_wp2
     go_ret
     exact ⟨by first | rfl | (simp [errW_none, errW_some] <;> rfl) | (simp only [← hji29]; first | rfl | (simp [errW_none, errW_some] <;> rfl)) | (simp [*, errW_none, errW_some] <;> rfl), bh_⟩
def computuslaw26_CattextLines.Pure : Prop := ∀ (a0_0 : Int) (l0_1 : List (S41)) (l0_2 : List (S43)), (Lit.int .i64 a0_0).wf = true → l0_1.length ≤ maxLen → (∀ x ∈ l0_1, wf41 x) → l0_2.length ≤ maxLen → (∀ x ∈ l0_2, wf43 x) → ∃ k, computuslaw26_CattextLines.f k a0_0 l0_1 l0_2 = some true
end Go.Proofs.YtlfokdbnbmebiaaDoor.Q
end
section
namespace Go.Proofs.YtlfokdbnbmebiaaDoor.Q
open Go.RowKit Go.Proofs.YtlfokdbnbmebiaaDoorW.PrintWords Go.Proofs.YtlfokdbnbmebiaaDoorW.PrintLast
set_option maxRecDepth 100000
def inN (n : Int) : Bool := decide (-9999999999 ≤ n) && decide (n ≤ 9999999999)
theorem inN_iff {n : Int} : inN n = true ↔ -9999999999 ≤ n ∧ n ≤ 9999999999 := by simp [inN]
theorem in_ev (n : Int) : computusref26_In.f n = some (inN n) := by
 unfold computusref26_In.f inN
 by_cases h : -9999999999 ≤ n
 ·rw [if_pos h]; simp [h]
 ·rw [if_neg h]; simp [h]
def anK (a : S39) : Bool :=
 if a.f0 = 1 then a.f3 == 0 && (a.f4 == 0 && a.f5 == 0) else if a.f0 = 2 then a.f1 == 0 && (a.f2 == 0 && (a.f4 == 0 && a.f5 == 0)) else if a.f0 = 3 then a.f3 == 0 && (decide (0 ≤ a.f4) && decide (a.f4 ≤ 6)) else false
def anB (a : S39) : Bool := inN a.f1 && (inN a.f2 && (inN a.f3 && (inN a.f5 && anK a)))
theorem an_j0 (b : Bool) (a : S39) (k : Nat) : computusref26_printableAnchor.j0 (k + 1) b a.f0 a.f1 a.f2 a.f3 a.f4 a.f5 = some (!b && anK a) := by
 rw [computusref26_printableAnchor.j0, anK]
 cases b with
 | true => rfl
 | false =>
  rw [if_neg (by decide), Bool.not_false, Bool.true_and]
  by_cases h1 : a.f0 = 1
  ·rw [if_pos h1, if_pos h1]
   by_cases h3 : a.f3 = 0 <;> by_cases h4 : a.f4 = 0 <;> simp [h3, h4]
  ·rw [if_neg h1, if_neg h1]
   by_cases h2 : a.f0 = 2
   ·rw [if_pos h2, if_pos h2]
    by_cases h3 : a.f1 = 0 <;> by_cases h4 : a.f2 = 0 <;> by_cases h5 : a.f4 = 0 <;> simp [h3, h4, h5]
   ·rw [if_neg h2, if_neg h2]
    by_cases h0 : a.f0 = 3
    ·rw [if_pos h0, if_pos h0]
     by_cases h3 : a.f3 = 0 <;> by_cases h4 : (0 : Int) ≤ a.f4 <;> simp [h3, h4]
    ·rw [if_neg h0, if_neg h0]
theorem an_ev (a : S39) : Ev (fun k => computusref26_printableAnchor.f k a.f0 a.f1 a.f2 a.f3 a.f4 a.f5) (anB a) := by
 refine Ev.step (f := fun _ => some (anB a)) (fun k => ?_) (Ev.now _)
 unfold computusref26_printableAnchor.f anB
 simp only [in_ev, Option.bind_some, an_j0]
 cases inN a.f1 <;> cases inN a.f2 <;> cases inN a.f3 <;> cases inN a.f5 <;> simp
def seB (x : S41) : Bool := idB x.f0 && (inN x.f1 && (inN x.f2 && anB x.f3))
def feB (x : S43) : Bool := idB x.f0 && (inN x.f1 && (decide (1 ≤ x.f2) && (decide (x.f2 ≤ 3) && anB x.f3)))
def prB (fr : Int) (ls : List S41) (lf : List S43) : Bool := ls.all seB && (lf.all feB && inN fr)
theorem rdS {l : List S41} {i : Nat} (h : i < l.length) : rd_T41 l (i : Int) = l[i] := by simp [rd_T41, List.getD, h]
theorem rdF {l : List S43} {i : Nat} (h : i < l.length) : rd_T43 l (i : Int) = l[i] := by simp [rd_T43, List.getD, h]
theorem gate {g : Nat → Option Bool} {f : Nat → Option Bool} {a r : Bool} (h : Ev g a) (hf : a = true → Ev f r) : Ev (fun k => (g k).bind fun t => if t = true then f k else some false) (a && r) := by
 refine Ev.bind h ?_
 cases a with
 | false => exact Ev.congr (fun k => if_neg (by decide)) (Ev.now _)
 | true => exact Ev.congr (fun k => if_pos rfl) (hf rfl)
theorem gin {n : Int} {f : Nat → Option Bool} {r : Bool} (hf : inN n = true → Ev f r) : Ev (fun k => (computusref26_In.f n).bind fun t => if t = true then f k else some false) (inN n && r) :=
 gate (g := fun _ => computusref26_In.f n) (Ev.congr (fun _ => in_ev n) (Ev.now _)) hf
theorem pr_l1 (fr : Int) (ls : List S41) (lf : List S43) (h : lf.length ≤ 1000000000000) : ∀ d i : Nat, i + d = lf.length → Ev (fun k => computusref26_Printable.l1 k (i : Int) fr ls lf) ((lf.drop i).all feB && inN fr)
 | 0, i, hi => by
  rw [List.drop_of_length_le (by omega)]
  refine Ev.step (fun k => computusref26_Printable.l1.eq_2 ..) (Ev.congr (fun k => (if_neg (by omega)).trans ?_) (Ev.now _))
  rw [in_ev]
  simp
 | d + 1, i, hi => by
  have hlt : i < lf.length := by omega
  rw [List.drop_eq_getElem_cons hlt, List.all_cons, Bool.and_assoc]
  refine Ev.step (fun k => computusref26_Printable.l1.eq_2 ..) (Ev.congr (fun k => (if_pos (by omega)).trans (if_pos (by omega))) ?_)
  rw [rdF hlt, wN i (by omega)]
  have ih := pr_l1 fr ls lf h d (i + 1) (by omega)
  generalize lf[i] = x
  unfold feB
  simp only [Bool.and_assoc]
  refine gate (id_ev x.f0) (fun _ => gin (fun _ => ?_))
  by_cases h1 : 1 ≤ x.f2
  ·refine Ev.congr (fun k => if_neg (by omega)) ?_
   rw [decide_eq_true h1, Bool.true_and]
   by_cases h2 : x.f2 ≤ 3
   ·refine Ev.congr (fun k => if_neg (by omega)) ?_
    rw [decide_eq_true h2, Bool.true_and]
    exact gate (an_ev x.f3) (fun _ => ih)
   ·refine Ev.congr (fun k => if_pos (by omega)) ?_
    rw [decide_eq_false h2, Bool.false_and]
    exact Ev.now _
  ·refine Ev.congr (fun k => if_pos (by omega)) ?_
   rw [decide_eq_false h1, Bool.false_and]
   exact Ev.now _
theorem pr_l0 (fr : Int) (ls : List S41) (lf : List S43) (h : lf.length ≤ 1000000000000) (h' : ls.length ≤ 1000000000000) : ∀ d i : Nat, i + d = ls.length → Ev (fun k => computusref26_Printable.l0 k (i : Int) fr ls lf) ((ls.drop i).all seB && (lf.all feB && inN fr))
 | 0, i, hi => by
  rw [List.drop_of_length_le (by omega)]
  refine Ev.step (fun k => computusref26_Printable.l0.eq_2 ..) (Ev.congr (fun k => (if_neg (by omega))) ?_)
  exact pr_l1 fr ls lf h lf.length 0 (by omega)
 | d + 1, i, hi => by
  have hlt : i < ls.length := by omega
  rw [List.drop_eq_getElem_cons hlt, List.all_cons, Bool.and_assoc]
  refine Ev.step (fun k => computusref26_Printable.l0.eq_2 ..) (Ev.congr (fun k => (if_pos (by omega)).trans (if_pos (by omega))) ?_)
  rw [rdS hlt, wN i (by omega)]
  have ih := pr_l0 fr ls lf h h' d (i + 1) (by omega)
  generalize ls[i] = x
  unfold seB
  simp only [Bool.and_assoc]
  exact gate (id_ev x.f0) (fun _ => gin (fun _ => gin (fun _ => gate (an_ev x.f3) (fun _ => ih))))
theorem pr_ev (fr : Int) (ls : List S41) (lf : List S43) (h : lf.length ≤ 1000000000000) (h' : ls.length ≤ 1000000000000) : Ev (fun k => computusref26_Printable.f k fr ls lf) (prB fr ls lf) := by
 unfold computusref26_Printable.f
 exact pr_l0 fr ls lf h h' ls.length 0 (by omega)
theorem inN_I {n : Int} (h : inN n = true) : inI n := by have := inN_iff.1 h; unfold inI; omega
theorem anK_ok {a : S39} (h : anK a = true) : okK a.f0 := by
 unfold anK at h
 unfold okK
 split at h
 ·exact .inl (by assumption)
 ·split at h
  ·exact .inr (.inl (by assumption))
  ·split at h
   ·exact .inr (.inr (by assumption))
   ·exact absurd h (by decide)
theorem anB_in {a : S39} (h : anB a = true) : inA a := by
 simp only [anB, Bool.and_eq_true] at h
 exact ⟨anK_ok h.2.2.2.2, inN_I h.1, inN_I h.2.1, inN_I h.2.2.1, inN_I h.2.2.2.1⟩
theorem idB_size {t : ByteArray} (h : idB t = true) : 1 ≤ t.size ∧ t.size ≤ 40 := by
 unfold idB at h
 rw [Bool.and_eq_true] at h
 exact of_decide_eq_true h.1
theorem seB_ok {x : S41} (h : seB x = true) : okS x := by
 simp only [seB, Bool.and_eq_true] at h
 exact ⟨by have := idB_size h.1; omega, inN_I h.2.1, inN_I h.2.2.1, anB_in h.2.2.2⟩
theorem feB_ok {x : S43} (h : feB x = true) : okF x := by
 simp only [feB, Bool.and_eq_true, decide_eq_true_eq] at h
 exact ⟨by have := idB_size h.1; omega, inN_I h.2.1, ⟨h.2.2.1, h.2.2.2.1⟩, anB_in h.2.2.2.2⟩
theorem prB_ok {fr : Int} {ls : List S41} {lf : List S43} (h : prB fr ls lf = true) (hl : ls.length ≤ 1000000) (hf : lf.length ≤ 1000000) : okC fr ls lf := by
 simp only [prB, Bool.and_eq_true, List.all_eq_true] at h
 exact ⟨inN_I h.2.2, hl, hf, fun x hx => seB_ok (h.1 x hx), fun x hx => feB_ok (h.2.1 x hx)⟩
end Go.Proofs.YtlfokdbnbmebiaaDoor.Q
end
section
namespace Go.Proofs.YtlfokdbnbmebiaaDoor.Q
open Go.RowKit Go.Proofs.YtlfokdbnbmebiaaDoorW.PrintWords Go.Proofs.YtlfokdbnbmebiaaDoorW.PrintLast
set_option maxRecDepth 100000
def no10 (l : List UInt8) : Prop := (10 : UInt8) ∉ l
theorem no10_join {l : List (List UInt8)} (h : ∀ x ∈ l, no10 x) : no10 (Lib.join l [32]) := by
 cases l with
 | nil => simp [Lib.join_nil, no10]
 | cons x r =>
  rw [Lib.join_cons]
  intro hm
  rcases List.mem_append.1 hm with h1 | h1
  ·exact h x (by simp) h1
  ·simp only [Lib.joinTail, List.mem_flatten, List.mem_map] at h1
   obtain ⟨l, ⟨y, hy, rfl⟩, h2⟩ := h1
   rcases List.mem_append.1 h2 with h3 | h3
   ·revert h3; decide
   ·exact h y (by simp [hy]) h3
theorem line_count {ws : List ByteArray} (h : ∀ x ∈ ws, no10 x.data.toList) : (lineL ws).count 10 = 1 := by
 unfold lineL
 rw [List.count_append, List.count_eq_zero.2 (no10_join (fun x hx => by
  obtain ⟨y, hy, rfl⟩ := List.mem_map.1 hx
  exact h y hy))]
 rfl
theorem byte_of {t : ByteArray} {b : UInt8} (h : b ∈ t.data.toList) : ∃ i, i < t.size ∧ b = UInt8.ofNat (bt t (i : Int)).toNat := by
 obtain ⟨i, hi, e⟩ := List.mem_iff_getElem.1 h
 have hi' : i < t.size := by simpa using hi
 have h2 := bt_data hi'
 rw [List.getElem?_eq_getElem hi, e] at h2
 exact ⟨i, hi', Option.some.inj h2⟩
theorem not10 {n : Int} (h0 : 11 ≤ n) (h1 : n ≤ 255) : (10 : UInt8) ≠ UInt8.ofNat n.toNat := by
 intro e
 have := congrArg UInt8.toNat e
 rw [UInt8.toNat_ofNat'] at this
 simp at this
 omega
theorem part_range {c : Int} (h : pPart c = true) : 48 ≤ c ∧ c ≤ 122 := by
 simp [pPart, pLetter, pDigit] at h
 omega
theorem id_no10 {t : ByteArray} (h : idB t = true) : no10 t.data.toList := by
 intro hm
 obtain ⟨i, hi, e⟩ := byte_of hm
 obtain ⟨h1, h2, h3, h4, h5⟩ := idB_iff.1 h
 rcases Nat.eq_zero_or_pos i with rfl | h0
 ·have := part_range (letter_part h4)
  exact not10 (by omega) (by omega) e
 ·rcases h5 i h0 hi with h6 | h6
  ·have := part_range h6
   exact not10 (by omega) (by omega) e
  ·exact not10 (by omega) (by omega) e
theorem dec_no10 : ∀ u : Nat, no10 (Lib.decDigits u) := by
 intro u
 induction u using Nat.strongRecOn with
 | _ u ih =>
  have hd : ∀ n, n < 10 → (10 : UInt8) ≠ UInt8.ofNat (48 + n) := by decide
  rw [Lib.decDigits]
  split
  ·intro hm
   rcases List.mem_singleton.1 hm with e
   exact hd u (by assumption) e
  ·intro hm
   rcases List.mem_append.1 hm with e | e
   ·exact ih (u / 10) (by omega) e
   ·exact hd (u % 10) (by omega) (List.mem_singleton.1 e)
theorem num_no10 (n : Int) : no10 (numB n).data.toList := by
 show no10 (Lib.itoa n).toArray.toList
 rw [List.toList_toArray]
 unfold Lib.itoa
 split
 ·intro hm
  rcases List.mem_cons.1 hm with e | e
  ·exact absurd e (by decide)
  ·exact dec_no10 _ e
 ·exact dec_no10 _
instance (l : List UInt8) : Decidable (no10 l) := by unfold no10; infer_instance
theorem wk_no10 (n : Int) : no10 (wkName n).data.toList := by
 unfold wkName
 split
 ·rename_i h
  have e : ∀ m, m < 7 → no10 (tDays.getD m ⟨#[]⟩).data.toList := by decide
  exact e n.toNat (by omega)
 ·decide
theorem pol_no10 {p : Int} (h : 1 ≤ p ∧ p ≤ 3) : no10 (polB p).data.toList := by
 unfold polB
 have e : ∀ m, m < 3 → no10 (tPols.getD m ⟨#[]⟩).data.toList := by decide
 exact e (p - 1).toNat (by omega)
theorem fr_no10 (a : S39) : ∀ x ∈ frW a, no10 x.data.toList := by
 unfold frW
 split
 ·intro x hx
  simp only [List.mem_cons, List.not_mem_nil, or_false] at hx
  rcases hx with rfl | rfl | rfl
  ·decide
  ·exact num_no10 _
  ·exact num_no10 _
 ·split
  ·intro x hx
   simp only [List.mem_cons, List.not_mem_nil, or_false] at hx
   rcases hx with rfl | rfl
   ·decide
   ·exact num_no10 _
  ·intro x hx
   simp only [List.mem_cons, List.not_mem_nil, or_false] at hx
   rcases hx with rfl | rfl | rfl | rfl | rfl
   ·decide
   ·exact wk_no10 _
   ·exact num_no10 _
   ·exact num_no10 _
   ·exact num_no10 _
theorem sea_count {x : S41} (h : seB x = true) : (seaL x).count 10 = 1 := by
 refine line_count (fun y hy => ?_)
 simp only [seB, Bool.and_eq_true] at h
 rcases List.mem_append.1 hy with h1 | h1
 ·simp only [seaW, List.mem_cons, List.not_mem_nil, or_false] at h1
  rcases h1 with rfl | rfl | rfl | rfl
  ·decide
  ·exact id_no10 h.1
  ·exact num_no10 _
  ·exact num_no10 _
 ·exact fr_no10 _ y h1
theorem fea_count {x : S43} (h : feB x = true) : (feaL x).count 10 = 1 := by
 refine line_count (fun y hy => ?_)
 simp only [feB, Bool.and_eq_true, decide_eq_true_eq] at h
 rcases List.mem_append.1 hy with h1 | h1
 ·simp only [feaW, List.mem_cons, List.not_mem_nil, or_false] at h1
  rcases h1 with rfl | rfl | rfl | rfl
  ·decide
  ·exact id_no10 h.1
  ·exact num_no10 _
  ·exact pol_no10 ⟨h.2.2.1, h.2.2.2.1⟩
 ·exact fr_no10 _ y h1
theorem flat_count {α : Type} {f : α → List UInt8} : ∀ {l : List α}, (∀ x ∈ l, (f x).count 10 = 1) → ((l.map f).flatten).count 10 = l.length
 | [], _ => rfl
 | x :: r, h => by
  rw [List.map_cons, List.flatten_cons, List.count_append, h x (by simp), flat_count (fun y hy => h y (by simp [hy])), List.length_cons]
  omega
theorem cat_count {fr : Int} {ls : List S41} {lf : List S43} (h : prB fr ls lf = true) : (catT fr ls lf).count 10 = 3 + ls.length + lf.length := by
 simp only [prB, Bool.and_eq_true, List.all_eq_true] at h
 unfold catT topL
 rw [List.count_append, List.count_append, List.count_append, List.count_append, flat_count (fun x hx => sea_count (h.1 x hx)), flat_count (fun x hx => fea_count (h.2.1 x hx)),
  line_count (ws := [⟨#[99, 97, 116, 97, 108, 111, 103, 117, 101]⟩]) (by decide), line_count (ws := [⟨#[102, 114, 101, 101]⟩, numB fr]) (fun x hx => by
   rcases List.mem_cons.1 hx with rfl | hx
   ·decide
   ·rw [List.mem_singleton.1 hx]; exact num_no10 _), show endL.count 10 = 1 from line_count (by decide)]
 omega
theorem cat_last (fr : Int) (ls : List S41) (lf : List S43) : ∃ X, catT fr ls lf = X ++ [10] := ⟨_, by unfold catT endL lineL; rw [← List.append_assoc]⟩
end Go.Proofs.YtlfokdbnbmebiaaDoor.Q
end
section
namespace Go.Proofs.YtlfokdbnbmebiaaDoor.Q
open Go.RowKit Go.Proofs.YtlfokdbnbmebiaaDoorW.PrintWords Go.Proofs.YtlfokdbnbmebiaaDoorW.PrintLast
set_option maxRecDepth 100000
theorem awL : computuslaw26_awake.f = some true := by decide +kernel
theorem bt_mk {L : List UInt8} {i : Nat} (h : i < L.length) : bt ⟨L.toArray⟩ (i : Int) = (L[i].toNat : Int) := by
 have h1 : i < (⟨L.toArray⟩ : ByteArray).size := by simpa [ByteArray.size] using h
 simp [bt, h1]
 rfl
theorem ln_l0 {L : List UInt8} (hL : L.length ≤ 1000000000000000) {fr : Int} {ls : List S41} {lf : List S43} (h1 : ls.length ≤ 1000) (h2 : lf.length ≤ 1000) (hc : L.count 10 = 3 + ls.length + lf.length) {X : List UInt8} (hX : L = X ++ [10]) :
  ∀ d i : Nat, i + d = L.length → Ev (fun k => computuslaw26_CattextLines.l0 k ⟨L.toArray⟩ (((L.take i).count 10 : Nat) : Int) (i : Int) fr ls lf) true
 | 0, i, hi => by
  have hsz : (⟨L.toArray⟩ : ByteArray).size = L.length := by simp [ByteArray.size]
  have hpos : 0 < L.length := by rw [hX]; simp
  rw [List.take_of_length_le (by omega), hc]
  refine Ev.step (fun k => computuslaw26_CattextLines.l0.eq_2 ..) (Ev.congr (fun k => (if_neg (by rw [hsz]; omega)).trans ((if_pos (by unfold wrap64; omega)).trans ((if_pos (by rw [hsz]; unfold wrap64; omega)).trans ((if_pos (by rw [hsz]; unfold wrap64; omega)).trans ?_)))) (Ev.now true))
  have e : wrap64 (((⟨L.toArray⟩ : ByteArray).size : Int) - 1) = ((L.length - 1 : Nat) : Int) := by rw [hsz]; unfold wrap64; omega
  rw [e, bt_mk (by omega)]
  have e2 : L[L.length - 1]'(by omega) = 10 := by subst hX; simp
  rw [e2]
  rfl
 | d + 1, i, hi => by
  have hsz : (⟨L.toArray⟩ : ByteArray).size = L.length := by simp [ByteArray.size]
  have hlt : i < L.length := by omega
  have ih := ln_l0 (fr := fr) hL h1 h2 hc hX d (i + 1) (by omega)
  have hle : (L.take i).count 10 ≤ i := Nat.le_trans List.count_le_length (by rw [List.length_take]; omega)
  refine Ev.step (fun k => computuslaw26_CattextLines.l0.eq_2 ..) (Ev.congr (fun k => (if_pos (by rw [hsz]; omega)).trans (if_pos (by omega))) ?_)
  rw [bt_mk hlt, wN i (by omega)]
  rw [List.take_succ_eq_append_getElem hlt, List.count_append] at ih
  by_cases hb : L[i] = 10
  ·refine Ev.congr (fun k => if_pos (by rw [hb]; rfl)) ?_
   rw [wN _ (by omega)]
   rw [hb] at ih
   exact ih
  ·refine Ev.congr (fun k => if_neg (fun h => hb (UInt8.toNat_inj.1 (by show L[i].toNat = 10; omega)))) ?_
   rw [List.count_eq_zero.2 (show (10 : UInt8) ∉ [L[i]] by simpa using fun h => hb h.symm)] at ih
   exact ih
end Go.Proofs.YtlfokdbnbmebiaaDoor.Q
namespace Go.Proofs.YtlfokdbnbmebiaaDoor.Pure
open Go.RowKit Go.Proofs.YtlfokdbnbmebiaaDoorW.PrintWords Go.Proofs.YtlfokdbnbmebiaaDoorW.PrintLast Go.Proofs.YtlfokdbnbmebiaaDoor.Q
theorem CattextLines : Q.computuslaw26_CattextLines.Pure := by
 intro fr ls lf hfr hls hws hlf hwf
 refine Ev.rounds (g := fun k => computuslaw26_CattextLines.f k fr ls lf) ?_
 have out : ∀ b, b = true → Ev (fun k => computuslaw26_CattextLines.j0 k b fr ls lf) true := fun b hb =>
  Ev.step (fun k => computuslaw26_CattextLines.j0.eq_2 ..) (Ev.congr (fun k => (if_pos hb).trans (by rw [awL]; rfl)) (Ev.now true))
 unfold computuslaw26_CattextLines.f
 rw [awL]
 show Ev (fun k => (computuslaw26_few.f fr ls lf).bind fun t => if t = true then ((computusref26_Printable.f k fr ls lf).bind fun p => computuslaw26_CattextLines.j0 k (!p) fr ls lf) else computuslaw26_CattextLines.j0 k true fr ls lf) true
 have hfew : computuslaw26_few.f fr ls lf = some (decide (ls.length ≤ 30) && decide (lf.length ≤ 60)) := by
  unfold computuslaw26_few.f
  by_cases h : ls.length ≤ 30
  ·rw [if_pos (by omega)]; simp [h]
   omega
  ·rw [if_neg (by omega)]; simp [h]
 rw [hfew]
 by_cases h30 : ls.length ≤ 30 ∧ lf.length ≤ 60
 ·rw [decide_eq_true h30.1, decide_eq_true h30.2]
  show Ev (fun k => (computusref26_Printable.f k fr ls lf).bind fun p => computuslaw26_CattextLines.j0 k (!p) fr ls lf) true
  refine Ev.bind (pr_ev fr ls lf (by omega) (by omega)) ?_
  cases hp : prB fr ls lf with
  | false => exact out _ rfl
  | true =>
   have hok := prB_ok hp (by omega) (by omega)
   have hpr : cattext_Print.f fr ls lf = some ⟨(catT fr ls lf).toArray⟩ := if_pos hok
   refine Ev.step (fun k => computuslaw26_CattextLines.j0.eq_2 ..) (Ev.congr (fun k => if_neg (by decide)) ?_)
   rw [hpr]
   obtain ⟨X, hX⟩ := cat_last fr ls lf
   exact ln_l0 (by have := okE_le hok; unfold catT; rw [List.length_append]; omega) (by omega) (by omega) (cat_count hp) hX (catT fr ls lf).length 0 (by omega)
 ·have e : (decide (ls.length ≤ 30) && decide (lf.length ≤ 60)) = false := by
   rcases Nat.lt_or_ge 30 ls.length with h | h
   ·simp; omega
   ·simp; omega
  rw [e]
  exact out true rfl
end Go.Proofs.YtlfokdbnbmebiaaDoor.Pure
end
section
namespace Go.Proofs.YtlfokdbnbmebiaaDoor.Q
open Go.RowKit Go.Proofs.YtlfokdbnbmebiaaDoorW.PrintWords Go.Proofs.YtlfokdbnbmebiaaDoorW.PrintLast Go.Proofs.YtlfokdbnbmebiaaDoorW.PrintMore
attribute [local go_sem] max2_int min2_int max_two min_two max_three min_three max_four min_four
def computuslaw26_CattextAccepted.j0 : Nat → ByteArray → Bool → Option (Bool)
 | 0, _, _ => none
 | k + 1, x0, x12 => if x12 = true then ((computuslaw26_awake.f).bind fun t421 => (some t421)) else ((cattext_Parse.f x0).bind fun bt422 => (if bt422.2.2.2.2 = 0 then ((computusref26_Printable.f k bt422.1 bt422.2.1 bt422.2.2.1).bind fun t432 => (if t432 = true then ((cattext_Print.f bt422.1 bt422.2.1 bt422.2.2.1).bind fun t433 => (some (t433.toList == x0.toList))) else (none))) else (if bt422.2.2.2.1 ≥ 0 then (if bt422.2.2.2.1 ≤ (x0.size : Int) then ((computusref17_Same.f k bt422.1 bt422.2.1 bt422.2.2.1 0 ([] : List (S41)) ([] : List (S43))).bind fun t434 => (some t434)) else (none)) else (none))))
def computuslaw26_CattextAccepted.f (k : Nat) (a0 : ByteArray) : Option (Bool) := (computuslaw26_awake.f).bind fun t420 => (if t420 = true then (computuslaw26_CattextAccepted.j0 k a0 (decide ((a0.size : Int) > 5000))) else (computuslaw26_CattextAccepted.j0 k a0 true))
theorem computuslaw26_CattextAccepted.calls (k : Nat) (a0 : ByteArray) (r : Bool) (w : World) (hT : Tabs w) (h : computuslaw26_CattextAccepted.f k a0 = some r) :
  Calls Tryd.prog 5 #[.string a0] w fun e w' => e = .returned (.bool r) ∧ Below w.heap.size w w' := by
 have HTAB := am_ hT
 clear hT
 have hu26 := Tryd.underlying26
 have HB := am_ (Below.refl w.heap.size w)
 have H := h
 clear h
 unfold computuslaw26_CattextAccepted.f at H
 have HC2 := am_ H
 clear H
 go_enter Tryd.func5, Tryd.ntmps5
 go_upto_region 1 with (fail)
 go_cut [12] (fun v12 wc => ∃ (kq : Nat) (x12_1 : Bool), v12 = .bool x12_1 ∧ Aside0 (computuslaw26_CattextAccepted.j0 kq a0 x12_1 = some r) ∧ Aside0 (kq ≤ k) ∧ Aside0 (Below w.heap.size w wc))
 case first =>
  have H := HC2.out
  clear HC2
  obtain ⟨t420, A3, H⟩ := bs_ H
  by_cases c4 : t420 = true
  ·subst c4
   replace H := it_ H
   have H' := am_ H
   clear H
   go_wp2_with (first | ((with_reducible refine gate_callee (f := 8) rfl ?_); refine goesL_ (some 6) rfl rfl Tryd.func8 (by kernel_rfl) rfl #[] rfl (by (try simp only [List.map_toArray, List.map_cons, List.map_nil]); first | done | rfl | (simp only [List.length_drop, List.length_take]; rfl)) ?_; (with_reducible refine (computuslaw26_awake.calls (hT := Tabs.below HTAB.out (by repeat (first | (with_reducible first | exact HB.out | apply below_alloc | apply pw_below_drewN | apply below_drew1 | refine below_set ?_ (by assumption)) | exact HB.out)))  true _ A3.out).mono ?_); rintro e w5 ⟨rfl, hb⟩; refine ⟨_, rfl, ?_⟩; replace HB := bt_ hb; (try clear hb); (try clear hi)))
   go_meet
   case rel => exact ⟨_, (decide ((a0.size : Int) > 5000)), rs_, H', ⟨by first | omega | exact Nat.le_refl _⟩, ⟨bh_⟩⟩
  replace c4 := Bool.eq_false_iff.mpr c4
  subst c4
  replace H := if_ H
  have H' := am_ H
  clear H
  go_wp2_with (first | ((with_reducible refine gate_callee (f := 8) rfl ?_); refine goesL_ (some 6) rfl rfl Tryd.func8 (by kernel_rfl) rfl #[] rfl (by (try simp only [List.map_toArray, List.map_cons, List.map_nil]); first | done | rfl | (simp only [List.length_drop, List.length_take]; rfl)) ?_; (with_reducible refine (computuslaw26_awake.calls (hT := Tabs.below HTAB.out (by repeat (first | (with_reducible first | exact HB.out | apply below_alloc | apply pw_below_drewN | apply below_drew1 | refine below_set ?_ (by assumption)) | exact HB.out)))  false _ A3.out).mono ?_); rintro e w6 ⟨rfl, hb⟩; refine ⟨_, rfl, ?_⟩; replace HB := bt_ hb; (try clear hb); (try clear hi)))
  go_meet
  case rel => exact ⟨_, (true), rs_, H', ⟨by first | omega | exact Nat.le_refl _⟩, ⟨bh_⟩⟩
 case rest =>
  clear HC2
  obtain ⟨kq, x12_1, rfl, HA, HJ1, HB⟩ := hcut
  cases kq with
  | zero => exact absurd HA.out (by simp [computuslaw26_CattextAccepted.j0])
  | succ kj1 =>
   have H := HA.out
   clear HA
   simp only [computuslaw26_CattextAccepted.j0] at H
   by_cases c7 : x12_1 = true
   ·subst c7
    replace H := it_ H
    obtain ⟨t421, A8, H⟩ := bs_ H
    obtain rfl := Option.some.inj H
    go_wp2_with (first | ((with_reducible refine gate_callee (f := 8) rfl ?_); refine goesL_ (some 13) rfl rfl Tryd.func8 (by kernel_rfl) rfl #[] rfl (by (try simp only [List.map_toArray, List.map_cons, List.map_nil]); first | done | rfl | (simp only [List.length_drop, List.length_take]; rfl)) ?_; (with_reducible refine (computuslaw26_awake.calls (hT := Tabs.below HTAB.out (by repeat (first | (with_reducible first | exact HB.out | apply below_alloc | apply pw_below_drewN | apply below_drew1 | refine below_set ?_ (by assumption)) | exact HB.out)))  t421 _ A8.out).mono ?_); rintro e w9 ⟨rfl, hb⟩; refine ⟨_, rfl, ?_⟩; replace HB := bt_ hb; (try clear hb); (try clear hi)))
    go_ret
    exact rt_
   replace c7 := Bool.eq_false_iff.mpr c7
   subst c7
   replace H := if_ H
   obtain ⟨⟨t422, t423, t426, t429, t430⟩, A10, H⟩ := bs_ H
   dsimp only at H
   by_cases c11 : t430 = 0
   rotate_left
   ·rw [if_neg c11] at H
    have c11b0 : (t430 == 0) = false := beq_eq_false_iff_ne.mpr c11
    have c11b1 : (t430 != 0) = true := bne_iff_ne.mpr c11
    by_cases c23 : t429 ≥ 0
    rotate_left
    ·rw [if_neg c23] at H
     exact absurd H (by simp)
    rw [if_pos c23] at H
    have c23b0 : decide (0 ≤ t429) = true := decide_eq_true c23
    clear c23
    by_cases c24 : t429 ≤ (a0.size : Int)
    rotate_left
    ·rw [if_neg c24] at H
     exact absurd H (by simp)
    rw [if_pos c24] at H
    have c24b0 : decide (t429 ≤ (a0.size : Int)) = true := decide_eq_true c24
    clear c24
    obtain ⟨t434, A25, H⟩ := bs_ H
    obtain rfl := Option.some.inj H
    go_wp2_with (first | ((with_reducible refine gate_callee (f := 9) rfl ?_); refine goesL_ (some 16) rfl rfl Tryd.func9 (by kernel_rfl) rfl #[.string a0] rfl (by (try simp only [List.map_toArray, List.map_cons, List.map_nil]); first | done | rfl | (simp only [List.length_drop, List.length_take]; rfl)) ?_; (with_reducible refine (cattext_Parse.calls (hT := Tabs.below HTAB.out (by repeat (first | (with_reducible first | exact HB.out | apply below_alloc | apply pw_below_drewN | apply below_drew1 | refine below_set ?_ (by assumption)) | exact HB.out))) a0 t422 t423 t426 t429 t430 _ A10.out).mono ?_); rintro e w26 ⟨v424, v427, rfl, ho0, ho1, hb⟩; refine ⟨_, rfl, ?_⟩; have HO425 := am_ (Kd.R_lower ho0 bz_); have HO428 := am_ (Kd.R_lower ho1 bz_); replace HB := bt_ hb; (try clear hb); (try clear ho0); (try clear ho1)) | ((with_reducible refine gate_dst (N := 3) rfl ?_); (try (refine gate_guard (by rfl) ?_; dsimp only)); refine be_ (N := 3) (cs := #[.int .i64 0, .slice none 0 0, .slice none 0 0]) (t := 26) ?_; intro gb431 hg w27 hbox hb; replace HO425 := rw_ HO425 hb; replace HO428 := rw_ HO428 hb; have BK431 := am_ (hbox); have GW431 := gw_ (w := w) hg; have GE431 := gw_ (w := w) hg; replace HB := bt_ hb; clear hb hbox hg; obtain ⟨hcz28_0, hcz28_1, hcz28_2⟩ := cz3_ BK431.out; obtain ⟨hfz28_0, hfz28_1, hfz28_2⟩ := fz3_ BK431.out; obtain ⟨Ao29, co29, eo29⟩ := Kd.R_slice HO425.out; subst eo29; obtain ⟨Ao30, co30, eo30⟩ := Kd.R_slice HO428.out; subst eo30) | (go_at_call 11; (refine (computusref17_Same.calls kj1 t422 _ _ t423 _ _ t426 0 _ _ ([] : List (S41)) _ _ ([] : List (S43)) t434 _ ?side1 ?side2 ?side3 ?side4 ?side5 ?side6 ?side7 ?side8 A25.out).mono ?_); (case side1 => refine (Kd.R_reads' (e := 41) (base := w.heap.size) (ok := fun k_ => True) (n := t423.length) (c := co29) ?_).2.2; exact (fa_ HO425 BK431)); (case side2 => exact (Kd.R_reads' HO425.out).2.1); (case side3 => refine (Kd.R_reads' (e := 43) (base := w.heap.size) (ok := fun k_ => True) (n := t426.length) (c := co30) ?_).2.2; exact (fa_ HO428 BK431)); (case side4 => exact (Kd.R_reads' HO428.out).2.1); (case side5 => exact Kd.C_nil _ _); (case side6 => exact Nat.le_refl _); (case side7 => exact Kd.C_nil _ _); (case side8 => exact Nat.le_refl _); rintro e w31 ⟨rfl, hb⟩; replace HO425 := am_ (Kd.R_below (fa_ HO425 BK431) hb); replace HO428 := am_ (Kd.R_below (fa_ HO428 BK431) hb); replace BK431 := am_ (blk_below (g := gb431) (o := .cells #[.int .i64 t422, .slice Ao29 t423.length co29, .slice Ao30 t426.length co30] 26 (0, 0)) (by refine bp_ ?_; refine blk_put (cs := #[.int .i64 t422, .slice Ao29 t423.length co29, .slice none 0 0]) ?_ 2 _ rfl; refine bp_ ?_; refine blk_put (cs := #[.int .i64 t422, .slice none 0 0, .slice none 0 0]) ?_ 1 _ rfl; refine bp_ ?_; refine blk_put (cs := #[.int .i64 0, .slice none 0 0, .slice none 0 0]) ?_ 0 _ rfl; exact bk_ BK431.out) hb); replace HB := bt_ hb; (try clear hb); (try clear hi)))
    go_ret
    exact rt_
   rw [if_pos c11] at H
   have c11b0 : (t430 == 0) = true := beq_iff_eq.mpr c11
   have c11b1 : (t430 != 0) = false := bne_eq_false_iff_eq.mpr c11
   clear c11
   obtain ⟨t432, A12, H⟩ := bs_ H
   by_cases c13 : t432 = true
   rotate_left
   ·replace c13 := Bool.eq_false_iff.mpr c13
    subst c13
    replace H := if_ H
    exact absurd H (by simp)
   subst c13
   replace H := it_ H
   obtain ⟨t433, A14, H⟩ := bs_ H
   obtain rfl := Option.some.inj H
   go_wp2_with (first | ((with_reducible refine gate_callee (f := 9) rfl ?_); refine goesL_ (some 16) rfl rfl Tryd.func9 (by kernel_rfl) rfl #[.string a0] rfl (by (try simp only [List.map_toArray, List.map_cons, List.map_nil]); first | done | rfl | (simp only [List.length_drop, List.length_take]; rfl)) ?_; (with_reducible refine (cattext_Parse.calls (hT := Tabs.below HTAB.out (by repeat (first | (with_reducible first | exact HB.out | apply below_alloc | apply pw_below_drewN | apply below_drew1 | refine below_set ?_ (by assumption)) | exact HB.out))) a0 t422 t423 t426 t429 t430 _ A10.out).mono ?_); rintro e w15 ⟨v424, v427, rfl, ho0, ho1, hb⟩; refine ⟨_, rfl, ?_⟩; have HO425 := am_ (Kd.R_lower ho0 bz_); have HO428 := am_ (Kd.R_lower ho1 bz_); replace HB := bt_ hb; (try clear hb); (try clear ho0); (try clear ho1)) | ((with_reducible refine gate_dst (N := 3) rfl ?_); (try (refine gate_guard (by rfl) ?_; dsimp only)); refine be_ (N := 3) (cs := #[.int .i64 0, .slice none 0 0, .slice none 0 0]) (t := 26) ?_; intro gb431 hg w16 hbox hb; replace HO425 := rw_ HO425 hb; replace HO428 := rw_ HO428 hb; have BK431 := am_ (hbox); have GW431 := gw_ (w := w) hg; have GE431 := gw_ (w := w) hg; replace HB := bt_ hb; clear hb hbox hg; obtain ⟨hcz17_0, hcz17_1, hcz17_2⟩ := cz3_ BK431.out; obtain ⟨hfz17_0, hfz17_1, hfz17_2⟩ := fz3_ BK431.out; obtain ⟨Ao18, co18, eo18⟩ := Kd.R_slice HO425.out; subst eo18; obtain ⟨Ao19, co19, eo19⟩ := Kd.R_slice HO428.out; subst eo19) | ((with_reducible refine gate_callee (f := 13) rfl ?_); refine goesL_ (some 36) rfl rfl Tryd.func13 (by kernel_rfl) rfl #[.agg #[.int .i64 t422, .slice Ao18 t423.length co18, .slice Ao19 t426.length co19]] rfl (by (try simp only [List.map_toArray, List.map_cons, List.map_nil]); first | done | rfl | (simp only [List.length_drop, List.length_take]; rfl)) ?_; (with_reducible refine (computusref26_Printable.calls kj1 t422 _ _ t423 _ _ t426 true _ ?side1 ?side2 ?side3 ?side4 A12.out).mono ?_); (case side1 => refine (Kd.R_reads' (e := 41) (base := w.heap.size) (ok := fun k_ => True) (n := t423.length) (c := co18) ?_).2.2; exact (fa_ HO425 BK431)); (case side2 => exact (Kd.R_reads' HO425.out).2.1); (case side3 => refine (Kd.R_reads' (e := 43) (base := w.heap.size) (ok := fun k_ => True) (n := t426.length) (c := co19) ?_).2.2; exact (fa_ HO428 BK431)); (case side4 => exact (Kd.R_reads' HO428.out).2.1); rintro e w20 ⟨rfl, hb⟩; refine ⟨_, rfl, ?_⟩; replace HO425 := am_ (Kd.R_below (fa_ HO425 BK431) hb); replace HO428 := am_ (Kd.R_below (fa_ HO428 BK431) hb); replace BK431 := am_ (blk_below (g := gb431) (o := .cells #[.int .i64 t422, .slice Ao18 t423.length co18, .slice Ao19 t426.length co19] 26 (0, 0)) (by refine bp_ ?_; refine blk_put (cs := #[.int .i64 t422, .slice Ao18 t423.length co18, .slice none 0 0]) ?_ 2 _ rfl; refine bp_ ?_; refine blk_put (cs := #[.int .i64 t422, .slice none 0 0, .slice none 0 0]) ?_ 1 _ rfl; refine bp_ ?_; refine blk_put (cs := #[.int .i64 0, .slice none 0 0, .slice none 0 0]) ?_ 0 _ rfl; exact bk_ BK431.out) hb); replace HB := bt_ hb; (try clear hb); obtain ⟨hcz21_0, hcz21_1, hcz21_2⟩ := cz3_ BK431.out; obtain ⟨hfz21_0, hfz21_1, hfz21_2⟩ := fz3_ BK431.out) | (go_at_call 14; (with_reducible refine (cattext_Print.calls (hT := Tabs.below HTAB.out (by repeat (first | (with_reducible first | exact HB.out | apply below_alloc | apply pw_below_drewN | apply below_drew1 | refine below_set ?_ (by assumption)) | exact HB.out))) t422 _ _ t423 _ _ t426 t433 _ ?side1 ?side2 ?side3 ?side4 A14.out).mono ?_); (case side1 => exact ck_ (Kd.R_reads' HO425.out).2.2); (case side2 => exact (Kd.R_reads' HO425.out).2.1); (case side3 => exact ck_ (Kd.R_reads' HO428.out).2.2); (case side4 => exact (Kd.R_reads' HO428.out).2.1); rintro e w22 ⟨rfl, hb⟩; replace HO425 := rw_ HO425 hb; replace HO428 := rw_ HO428 hb; replace BK431 := bw_ BK431 hb; replace HB := bt_ hb; (try clear hb); (try clear hi)))
   go_ret
   exact rt_
def computuslaw26_CattextAccepted.Pure : Prop := ∀ (a0 : ByteArray), a0.size ≤ 140737488351232 → ∃ k, computuslaw26_CattextAccepted.f k a0 = some true
end Go.Proofs.YtlfokdbnbmebiaaDoor.Q
end
section
namespace Go.Proofs.YtlfokdbnbmebiaaDoor.Q
open Go.RowKit Go.Proofs.YtlfokdbnbmebiaaDoorW.PrintWords Go.Proofs.YtlfokdbnbmebiaaDoorW.PrintLast
set_option maxRecDepth 100000
theorem ff {p : Prop} (h : true = false) : p := by cases h
theorem ff' {p : Prop} (h : false = true) : p := by cases h
def Ate (s : ByteArray) (a : Nat) (t : List UInt8) (b : Nat) : Prop := b = a + t.length ∧ t <+: s.data.toList.drop a
theorem Ate.trans {s : ByteArray} {a b c : Nat} {t u : List UInt8} (h : Ate s a t b) (k : Ate s b u c) : Ate s a (t ++ u) c := by
 obtain ⟨rfl, r, hr⟩ := h
 obtain ⟨rfl, q, hq⟩ := k
 refine ⟨by rw [List.length_append]; omega, q, ?_⟩
 rw [← List.drop_drop, ← hr, List.drop_left] at hq
 rw [List.append_assoc, hq, hr]
theorem Ate.all {s : ByteArray} {t : List UInt8} (h : Ate s 0 t s.size) : t = s.data.toList := by
 obtain ⟨h1, h2⟩ := h
 rw [List.drop_zero] at h2
 refine h2.eq_of_length ?_
 have : s.data.toList.length = s.size := Array.length_toList
 omega
theorem ate_of {s : ByteArray} {a : Nat} {t : List UInt8} (h : ∀ i, (hi : i < t.length) → a + i < s.size ∧ bt s ((a + i : Nat) : Int) = (t[i].toNat : Int)) : Ate s a t (a + t.length) := by
 refine ⟨rfl, List.prefix_iff_getElem?.2 (fun i hi => ?_)⟩
 obtain ⟨h1, h2⟩ := h i hi
 rw [List.getElem?_drop, bt_data h1, h2]
 congr 1
 exact (UInt8.ofNat_toNat (x := t[i]))
theorem ate_byte {s : ByteArray} {a : Nat} {b : UInt8} (h : a < s.size) (hb : bt s (a : Int) = (b.toNat : Int)) : Ate s a [b] (a + 1) :=
 ate_of (t := [b]) (fun i hi => by
  obtain rfl : i = 0 := by simpa using hi
  exact ⟨h, hb⟩)
theorem ate_bytes {s w : ByteArray} {a : Nat} (hz : a + w.size ≤ s.size) (h : ∀ m, m < w.size → bt w (m : Int) = bt s ((a + m : Nat) : Int)) : Ate s a w.data.toList (a + w.size) := by
 have hl : w.data.toList.length = w.size := Array.length_toList
 have := ate_of (s := s) (a := a) (t := w.data.toList) (fun i hi => ⟨by omega, by
  rw [← h i (by omega)]
  have hi' : i < w.size := by omega
  simp [bt, hi']
  rfl⟩)
 rwa [hl] at this
theorem eatW {s : ByteArray} {l : List ByteArray} (hl : Wds l) {x : Sc} (hx : x.1 ≤ s.size) (h : (scW s l x).2.2 = false) : x.2 = false ∧ ∃ k, ∃ hk : k < l.length, (scW s l x).1 = (k : Int) ∧ Ate s x.1 (l[k]).data.toList (scW s l x).2.1 := by
 have hb : x.2 = false := by
  rcases scW_cases s l x with h1 | h1
  ·rw [h1.1] at h; exact absurd h (by decide)
  ·exact h1.1
 refine ⟨hb, ?_⟩
 obtain ⟨r, hr, e⟩ := scW_wr hl hb hx
 rw [e] at h ⊢
 rcases hr with ⟨k, hk, h1, rfl⟩ | ⟨h1, rfl⟩
 ·have a := (agr_iff (w := l[k]) hx l[k].size).2 (by omega)
  exact ⟨k, hk, rfl, ate_bytes a.2.1 a.2.2⟩
 ·exact ff h
theorem eatSp {s : ByteArray} {x : Sc} (hx : x.1 ≤ s.size) (h : (scW s wSp x).2.2 = false) : x.2 = false ∧ Ate s x.1 [32] (scW s wSp x).2.1 := by
 obtain ⟨h1, k, hk, _, h3⟩ := eatW wdSp hx h
 obtain rfl : k = 0 := by simpa [wSp] using hk
 exact ⟨h1, h3⟩
theorem eatNl {s : ByteArray} {x : Sc} (hx : x.1 ≤ s.size) (h : (scW s wNl x).2.2 = false) : x.2 = false ∧ Ate s x.1 [10] (scW s wNl x).2.1 := by
 obtain ⟨h1, k, hk, _, h3⟩ := eatW wdNl hx h
 obtain rfl : k = 0 := by simpa [wNl] using hk
 exact ⟨h1, h3⟩
theorem dec_snoc {u d : Nat} (hu : 0 < u) (hd : d < 10) : Lib.decDigits (10 * u + d) = Lib.decDigits u ++ [UInt8.ofNat (48 + d)] := by
 rw [Lib.decDigits, dif_neg (by omega), show (10 * u + d) / 10 = u by omega, show (10 * u + d) % 10 = d by omega]
theorem dgt_byte {c : Int} (h0 : 48 ≤ c) (h1 : c ≤ 57) : ((UInt8.ofNat (48 + (c - 48).toNat)).toNat : Int) = c := by
 rw [UInt8.toNat_ofNat']
 omega
theorem eatD {s : ByteArray} {o : Nat} : ∀ n : Nat, o + (n + 1) ≤ s.size → 49 ≤ bt s (o : Int) → (∀ i, i < n + 1 → 48 ≤ bt s ((o + i : Nat) : Int) ∧ bt s ((o + i : Nat) : Int) ≤ 57) →
  ∃ u : Nat, 0 < u ∧ u < 10 ^ (n + 1) ∧ scVal s (n + 1) o 0 = (u : Int) ∧ Ate s o (Lib.decDigits u) (o + (n + 1))
 | 0, hz, h9, hd => by
  have h := hd 0 (by omega)
  rw [Nat.add_zero] at h
  refine ⟨(bt s (o : Int) - 48).toNat, by omega, by simp; omega, by simp [scVal]; omega, ?_⟩
  rw [Lib.decDigits_one (by omega)]
  exact ate_byte (by omega) (dgt_byte h.1 h.2).symm
 | n + 1, hz, h9, hd => by
  obtain ⟨u, h1, h2, h3, h4⟩ := eatD n (by omega) h9 (fun i hi => hd i (by omega))
  have h := hd (n + 1) (by omega)
  refine ⟨10 * u + (bt s ((o + (n + 1) : Nat) : Int) - 48).toNat, by omega, by rw [Nat.pow_succ]; omega, by rw [scVal_snoc, h3]; omega, ?_⟩
  rw [dec_snoc h1 (by omega)]
  exact h4.trans (ate_byte (by omega) (dgt_byte h.1 h.2).symm)
theorem lead_iff {s : ByteArray} {i : Nat} (h : scTake s i pLeading = true) : i < s.size ∧ 49 ≤ bt s (i : Int) ∧ bt s (i : Int) ≤ 57 := by
 have := take_iff.1 h
 simp [pLeading] at this
 omega
theorem eatRun {s : ByteArray} {i : Nat} (h : scTake s i pLeading = true) : ∃ u : Nat, 0 < u ∧ u < 10 ^ 10 ∧ scVal s (scRun pDigit s 9 (i + 1) - i) i 0 = (u : Int) ∧ Ate s i (Lib.decDigits u) (scRun pDigit s 9 (i + 1)) := by
 obtain ⟨h1, h2, h3⟩ := lead_iff h
 obtain ⟨r1, r2, r3, r4⟩ := scRun_spec pDigit s 9 (i + 1) h1
 generalize hJ : scRun pDigit s 9 (i + 1) = J at r1 r2 r3 r4 ⊢
 obtain ⟨n, rfl⟩ : ∃ n, J = i + (n + 1) := ⟨J - i - 1, by omega⟩
 obtain ⟨u, a1, a2, a3, a4⟩ := eatD (s := s) (o := i) n r2 h2 (fun k hk => by
  rcases Nat.eq_zero_or_pos k with rfl | hk0
  ·exact ⟨by rw [Nat.add_zero]; omega, by rw [Nat.add_zero]; omega⟩
  ·have := r4 (i + k) (by omega) (by omega)
   simp only [pDigit, Bool.and_eq_true, decide_eq_true_eq] at this
   exact this)
 refine ⟨u, a1, Nat.lt_of_lt_of_le a2 (Nat.pow_le_pow_right (by decide) (by omega)), ?_, a4⟩
 rw [show i + (n + 1) - i = n + 1 by omega]
 exact a3
theorem numB_list (n : Int) : (numB n).data.toList = Lib.itoa n := rfl
theorem eatN {s : ByteArray} {x : Sc} (hx : x.1 ≤ s.size) (h : (scN s x).2.2 = false) : x.2 = false ∧ inN (scN s x).1 = true ∧ Ate s x.1 (numB (scN s x).1).data.toList (scN s x).2.1 := by
 unfold scN at h ⊢
 by_cases hb : x.2 = true
 ·rw [if_pos hb] at h; exact absurd h (by rw [hb]; decide)
 ·rw [if_neg hb] at h ⊢
  refine ⟨by simpa using hb, ?_⟩
  have hok : (scNum s x.1).1 = true := by simpa using h
  dsimp only
  rw [if_pos hok]
  unfold scNum at hok ⊢
  by_cases h0 : scTake s x.1 (pIs 48) = true
  ·rw [if_pos h0]
   obtain ⟨h1, h2⟩ := take_iff.1 h0
   refine ⟨by show inN 0 = true; decide, ?_⟩
   rw [numB_list, show Lib.itoa 0 = [48] by decide +kernel]
   exact ate_byte (b := 48) h1 (pIs_iff.1 h2)
  ·rw [if_neg h0] at hok ⊢
   by_cases h4 : scTake s x.1 (pIs 45) = true
   ·rw [if_pos h4] at hok ⊢
    obtain ⟨h1, h2⟩ := take_iff.1 h4
    by_cases h5 : scTake s (x.1 + 1) pLeading = true
    ·rw [if_pos h5]
     obtain ⟨u, a1, a2, a3, a4⟩ := eatRun h5
     rw [a3]
     refine ⟨inN_iff.2 (by dsimp only; omega), ?_⟩
     rw [numB_list, Lib.itoa_neg u a1]
     exact (ate_byte (b := 45) h1 (pIs_iff.1 h2)).trans a4
    ·rw [if_neg h5] at hok; exact ff' hok
   ·rw [if_neg h4] at hok ⊢
    by_cases h5 : scTake s x.1 pLeading = true
    ·rw [if_pos h5]
     obtain ⟨u, a1, a2, a3, a4⟩ := eatRun h5
     rw [a3]
     refine ⟨inN_iff.2 (by dsimp only; omega), ?_⟩
     rw [numB_list, Lib.itoa_nonneg u]
     exact a4
    ·rw [if_neg h5] at hok; exact ff' hok
theorem eatI {s : ByteArray} {x : Sc} (hx : x.1 ≤ s.size) (h : (scI s x).2.2 = false) : x.2 = false ∧ idB (scI s x).1 = true ∧ Ate s x.1 (scI s x).1.data.toList (scI s x).2.1 := by
 unfold scI at h ⊢
 by_cases hb : x.2 = true
 ·rw [if_pos hb] at h; exact absurd h (by rw [hb]; decide)
 ·rw [if_neg hb] at h ⊢
  refine ⟨by simpa using hb, ?_⟩
  have hok : (scIdent s x.1).1 = true := by simpa using h
  dsimp only
  rw [if_pos hok]
  rcases ident_spec (s := s) (i := x.1) with ⟨J, h1, h2, _⟩ | ⟨J, h1, _⟩
  ·rw [h1]
   dsimp only
   obtain ⟨b1, b2, b3, b4, b5⟩ := h2
   have hsz : (s.extract x.1 J).size = J - x.1 := by rw [ByteArray.size_extract]; omega
   have hbt : ∀ m, m < J - x.1 → bt (s.extract x.1 J) (m : Int) = bt s ((x.1 + m : Nat) : Int) := fun m hm => bt_extract b2 (by omega)
   refine ⟨idB_iff.2 ⟨by omega, Nat.le_refl _, by omega, ?_, fun q q0 q1 => ?_⟩, ?_⟩
   ·rw [hbt 0 (by omega)]; exact b4
   ·rw [hsz] at q1
    rw [hbt q q1, hsz]
    rcases b5 (x.1 + q) (by omega) (by omega) with c | ⟨c1, c2, c3⟩
    ·exact .inl c
    ·refine .inr ⟨c1, by omega, ?_⟩
     rw [hbt (q + 1) (by omega)]
     exact c3
   ·have := ate_bytes (s := s) (w := s.extract x.1 J) (a := x.1) (by omega) (fun m hm => hbt m (by omega))
    rwa [hsz, show x.1 + (J - x.1) = J by omega] at this
  ·rw [h1] at hok; exact ff' hok
end Go.Proofs.YtlfokdbnbmebiaaDoor.Q
end
section
namespace Go.Proofs.YtlfokdbnbmebiaaDoor.Q
open Go.RowKit Go.Proofs.YtlfokdbnbmebiaaDoorW.PrintWords Go.Proofs.YtlfokdbnbmebiaaDoorW.PrintLast
set_option maxRecDepth 100000
def tl (ws : List ByteArray) : List UInt8 := (ws.map fun w => [(32 : UInt8)] ++ w.data.toList).flatten
theorem tl_cons (w : ByteArray) (ws : List ByteArray) : tl (w :: ws) = [32] ++ w.data.toList ++ tl ws := by simp [tl]
theorem tl_append (a b : List ByteArray) : tl (a ++ b) = tl a ++ tl b := by simp [tl]
theorem lineL_tl (w : ByteArray) (ws : List ByteArray) : lineL (w :: ws) = w.data.toList ++ (tl ws ++ [10]) := by
 unfold lineL
 rw [List.map_cons, Lib.join_cons, Lib.joinTail, tl, List.map_map, List.append_assoc]
 rfl
theorem Ate.cons {s : ByteArray} {a b c : Nat} {w : ByteArray} {ws : List ByteArray} (h : Ate s a ([32] ++ w.data.toList) b) (k : Ate s b (tl ws) c) : Ate s a (tl (w :: ws)) c := by
 rw [tl_cons]
 exact h.trans k
theorem Ate.nil (s : ByteArray) (a : Nat) : Ate s a (tl []) a := ⟨by simp [tl], by simp [tl]⟩
theorem eatPN {s : ByteArray} {x : Sc} (hx : x.1 ≤ s.size) (h : (pcN s x).2.2 = false) : x.2 = false ∧ inN (pcN s x).1 = true ∧ Ate s x.1 ([32] ++ (numB (pcN s x).1).data.toList) (pcN s x).2.1 := by
 obtain ⟨h1, h2, h3⟩ := eatN (scW_le hx) h
 obtain ⟨h4, h5⟩ := eatSp hx h1
 exact ⟨h4, h2, h5.trans h3⟩
theorem eatPI {s : ByteArray} {x : Sc} (hx : x.1 ≤ s.size) (h : (pcI s x).2.2 = false) : x.2 = false ∧ idB (pcI s x).1 = true ∧ Ate s x.1 ([32] ++ (pcI s x).1.data.toList) (pcI s x).2.1 := by
 obtain ⟨h1, h2, h3⟩ := eatI (scW_le hx) h
 obtain ⟨h4, h5⟩ := eatSp hx h1
 exact ⟨h4, h2, h5.trans h3⟩
theorem eatPC {s : ByteArray} {l : List ByteArray} (hl : Wds l) {x : Sc} (hx : x.1 ≤ s.size) (h : (pcC s l x).2.2 = false) : x.2 = false ∧ ∃ k, ∃ hk : k < l.length, (pcC s l x).1 = (k : Int) ∧ Ate s x.1 ([32] ++ (l[k]).data.toList) (pcC s l x).2.1 := by
 obtain ⟨h1, k, hk, h2, h3⟩ := eatW hl (scW_le hx) h
 obtain ⟨h4, h5⟩ := eatSp hx h1
 exact ⟨h4, k, hk, h2, h5.trans h3⟩
theorem pcA1_le {s : ByteArray} {k : Int} {x : Sc} (h : x.1 ≤ s.size) : (pcA1 s k x).2.1 ≤ s.size := by
 unfold pcA1
 split
 ·exact pcN_le (pcN_le h)
 ·split
  ·exact pcN_le h
  ·split
   ·exact pcN_le (pcN_le (pcN_le (pcC_le h)))
   ·exact h
theorem wk_get {j : Nat} (hj : j < tDays.length) : wkName (j : Int) = tDays[j] := by
 have h7 : tDays.length = 7 := rfl
 unfold wkName
 rw [if_pos (by omega)]
 simp [List.getD, hj]
theorem eatA1 {s : ByteArray} {k : Nat} (hk : k < wKinds.length) {x : Sc} (hx : x.1 ≤ s.size) (h : (pcA1 s (k : Int) x).2.2 = false) : x.2 = false ∧ anB (pcA1 s (k : Int) x).1 = true ∧ ∃ r, frW (pcA1 s (k : Int) x).1 = wKinds[k] :: r ∧ Ate s x.1 (tl r) (pcA1 s (k : Int) x).2.1 := by
 have h3 : wKinds.length = 3 := rfl
 rcases k with _ | _ | _ | k
 ·have e : pcA1 s ((0 : Nat) : Int) x = (⟨1, (pcN s x).1, (pcN s (pcN s x).2).1, 0, 0, 0⟩, (pcN s (pcN s x).2).2) := by unfold pcA1; exact if_pos rfl
  rw [e] at h ⊢
  obtain ⟨b1, b2, b3⟩ := eatPN (pcN_le hx) h
  obtain ⟨c1, c2, c3⟩ := eatPN hx b1
  refine ⟨c1, ?_, [numB (pcN s x).1, numB (pcN s (pcN s x).2).1], if_pos rfl, c3.cons (b3.cons (Ate.nil s _))⟩
  show (inN (pcN s x).1 && (inN (pcN s (pcN s x).2).1 && _)) = true
  rw [b2, c2]
  rfl
 ·have e : pcA1 s ((0 + 1 : Nat) : Int) x = (⟨2, 0, 0, (pcN s x).1, 0, 0⟩, (pcN s x).2) := by unfold pcA1; exact (if_neg (by decide)).trans (if_pos rfl)
  rw [e] at h ⊢
  obtain ⟨c1, c2, c3⟩ := eatPN hx h
  refine ⟨c1, ?_, [numB (pcN s x).1], (if_neg (by show ¬ (2 : Int) = 1; decide)).trans (if_pos rfl), c3.cons (Ate.nil s _)⟩
  show (inN 0 && (inN 0 && (inN (pcN s x).1 && _))) = true
  rw [c2]
  rfl
 ·have e : pcA1 s ((0 + 1 + 1 : Nat) : Int) x = (⟨3, (pcN s (pcN s (pcC s tDays x).2).2).1, (pcN s (pcN s (pcN s (pcC s tDays x).2).2).2).1, 0, (pcC s tDays x).1, (pcN s (pcC s tDays x).2).1⟩, (pcN s (pcN s (pcN s (pcC s tDays x).2).2).2).2) := by
   unfold pcA1; exact (if_neg (by decide)).trans ((if_neg (by decide)).trans (if_pos rfl))
  rw [e] at h ⊢
  obtain ⟨a1, a2, a3⟩ := eatPN (pcN_le (pcN_le (pcC_le hx))) h
  obtain ⟨b1, b2, b3⟩ := eatPN (pcN_le (pcC_le hx)) a1
  obtain ⟨c1, c2, c3⟩ := eatPN (pcC_le hx) b1
  obtain ⟨d1, j, hj, d2, d3⟩ := eatPC wdDays hx c1
  have h7 : tDays.length = 7 := rfl
  refine ⟨d1, ?_, [wkName (pcC s tDays x).1, numB (pcN s (pcC s tDays x).2).1, numB (pcN s (pcN s (pcC s tDays x).2).2).1, numB (pcN s (pcN s (pcN s (pcC s tDays x).2).2).2).1], (if_neg (by show ¬ (3 : Int) = 1; decide)).trans (if_neg (by show ¬ (3 : Int) = 2; decide)), ?_⟩
  ·have hk : anK (⟨3, (pcN s (pcN s (pcC s tDays x).2).2).1, (pcN s (pcN s (pcN s (pcC s tDays x).2).2).2).1, 0, (pcC s tDays x).1, (pcN s (pcC s tDays x).2).1⟩ : S39) = true := by
    show (((0 : Int) == 0) && (decide (0 ≤ (pcC s tDays x).1) && decide ((pcC s tDays x).1 ≤ 6))) = true
    rw [decide_eq_true (by omega), decide_eq_true (by omega)]
    rfl
   show (inN (pcN s (pcN s (pcC s tDays x).2).2).1 && (inN (pcN s (pcN s (pcN s (pcC s tDays x).2).2).2).1 && (inN 0 && (inN (pcN s (pcC s tDays x).2).1 && _)))) = true
   rw [a2, b2, c2, hk]
   rfl
  ·refine Ate.cons ?_ (c3.cons (b3.cons (a3.cons (Ate.nil s _))))
   rw [d2, wk_get hj]
   exact d3
 ·omega
theorem eatA {s : ByteArray} {x : Sc} (hx : x.1 ≤ s.size) (h : (pcA s x).2.2 = false) : x.2 = false ∧ anB (pcA s x).1 = true ∧ Ate s x.1 (tl (frW (pcA s x).1) ++ [10]) (pcA s x).2.1 := by
 unfold pcA at h ⊢
 obtain ⟨h1, h2⟩ := eatNl (pcA1_le (pcC_le hx)) h
 have hc : (pcC s wKinds x).2.2 = false := by
  rcases pcC_cases s wKinds x with ⟨g1, g2⟩ | g
  ·rw [g2] at h1
   have e : pcA1 s (-1) (pcC s wKinds x).2 = (z39, (pcC s wKinds x).2) := by unfold pcA1; rw [if_neg (by decide), if_neg (by decide), if_neg (by decide)]
   rw [e] at h1
   rw [h1] at g1
   exact absurd g1 (by decide)
  ·exact g.1
 obtain ⟨c1, k, hk, c2, c3⟩ := eatPC wdKinds hx hc
 rw [c2] at h1 h2 ⊢
 obtain ⟨d1, d2, r, d3, d4⟩ := eatA1 hk (pcC_le hx) h1
 refine ⟨c1, d2, ?_⟩
 rw [d3]
 exact (c3.cons d4).trans h2
theorem eatF {s : ByteArray} {x : Sc} (hx : x.1 ≤ s.size) (h : (pcF s x).2.2 = false) : x.2 = false ∧ feB (pcF s x).1 = true ∧ ∃ r, feaL (pcF s x).1 = bFeast.data.toList ++ r ∧ Ate s x.1 r (pcF s x).2.1 := by
 unfold pcF at h ⊢
 obtain ⟨a1, a2, a3⟩ := eatA (pcC_le (pcN_le (pcI_le hx))) h
 obtain ⟨b1, k, hk, b2, b3⟩ := eatPC wdPols (pcN_le (pcI_le hx)) a1
 obtain ⟨c1, c2, c3⟩ := eatPN (pcI_le hx) b1
 obtain ⟨d1, d2, d3⟩ := eatPI hx c1
 have h3 : tPols.length = 3 := rfl
 have hw : wrap64 ((pcC s tPols (pcN s (pcI s x).2).2).1 + 1) = (k : Int) + 1 := by rw [b2]; unfold wrap64; omega
 have hp : polB ((k : Int) + 1) = tPols[k] := by
  unfold polB
  rw [show ((k : Int) + 1 - 1).toNat = k by omega]
  simp [List.getD, hk]
 refine ⟨d1, ?_, _, lineL_tl _ _, ?_⟩
 ·show (idB _ && (inN _ && (decide (1 ≤ wrap64 _) && (decide (wrap64 _ ≤ 3) && anB _)))) = true
  rw [d2, c2, a2, hw, decide_eq_true (by omega), decide_eq_true (by omega)]
  rfl
 ·show Ate s x.1 (tl ([(pcI s x).1, numB (pcN s (pcI s x).2).1, polB (wrap64 ((pcC s tPols (pcN s (pcI s x).2).2).1 + 1))] ++ frW _) ++ [10]) _
  rw [hw, hp, tl_append, List.append_assoc]
  exact (d3.cons (c3.cons (b3.cons (Ate.nil s _)))).trans a3
theorem eatS {s : ByteArray} {x : Sc} (hx : x.1 ≤ s.size) (h : (pcS s x).2.2 = false) : x.2 = false ∧ seB (pcS s x).1 = true ∧ ∃ r, seaL (pcS s x).1 = bSeason.data.toList ++ r ∧ Ate s x.1 r (pcS s x).2.1 := by
 unfold pcS at h ⊢
 obtain ⟨a1, a2, a3⟩ := eatA (pcN_le (pcN_le (pcI_le hx))) h
 obtain ⟨b1, b2, b3⟩ := eatPN (pcN_le (pcI_le hx)) a1
 obtain ⟨c1, c2, c3⟩ := eatPN (pcI_le hx) b1
 obtain ⟨d1, d2, d3⟩ := eatPI hx c1
 refine ⟨d1, ?_, _, lineL_tl _ _, ?_⟩
 ·show (idB _ && (inN _ && (inN _ && anB _))) = true
  rw [d2, c2, b2, a2]
  rfl
 ·show Ate s x.1 (tl ([(pcI s x).1, numB (pcN s (pcI s x).2).1, numB (pcN s (pcN s (pcI s x).2).2).1] ++ frW _) ++ [10]) _
  rw [tl_append, List.append_assoc]
  exact (d3.cons (c3.cons (b3.cons (Ate.nil s _)))).trans a3
theorem eatL {s : ByteArray} : ∀ (m n : Nat) (ls : List S41) (lf : List S43) (x : Sc), (n = 2 ∨ n = 3) → x.1 ≤ s.size → left_ s x ≤ m → (catL s m n ls lf x).2.2.2 = false →
  x.2 = false ∧ ∃ S F, (catL s m n ls lf x).1 = ls ++ S ∧ (catL s m n ls lf x).2.1 = lf ++ F ∧ (n = 2 → S = []) ∧ S.all seB = true ∧ F.all feB = true ∧ Ate s x.1 ((S.map seaL).flatten ++ (F.map feaL).flatten ++ endL) s.size
 | m, n, ls, lf, x, hn, hx, hl, h => by
  by_cases hb : x.2 = true
  ·rw [catL_bad hb] at h
   exact ff (hb.symm.trans h)
  ·have hb' : x.2 = false := by simpa using hb
   refine ⟨hb', ?_⟩
   obtain ⟨m, rfl⟩ : ∃ j, m = j + 1 := ⟨m - 1, by unfold left_ at hl; rw [if_neg hb] at hl; omega⟩
   have hH : Wds (wHeads.take n) := by rcases hn with rfl | rfl; exact wdH2; exact wdH3
   have hc := scW_cases s (wHeads.take n) x
   have hq : (scW s (wHeads.take n) x).2.1 ≤ s.size := scW_le hx
   have hge := scW_ge s (wHeads.take n) x
   have hE := fun h => (eatW hH hx h).2
   have g0 : ∀ h : 0 < (wHeads.take n).length, (wHeads.take n)[0] = bEnd := by rcases hn with rfl | rfl <;> exact fun _ => rfl
   have g1 : ∀ h : 1 < (wHeads.take n).length, (wHeads.take n)[1] = bFeast := by rcases hn with rfl | rfl <;> exact fun _ => rfl
   have g2 : ∀ h : 2 < (wHeads.take n).length, n = 3 ∧ (wHeads.take n)[2] = bSeason := by
    rcases hn with rfl | rfl
    ·exact fun h => absurd h (by decide)
    ·exact fun _ => ⟨rfl, rfl⟩
   have g3 : (wHeads.take n).length ≤ 3 := by rcases hn with rfl | rfl <;> decide
   rw [catL, if_neg hb] at h ⊢
   generalize scW s (wHeads.take n) x = q at hc hq hE hge h ⊢
   by_cases h0 : q.1 = 0
   ·rw [if_pos h0] at h ⊢
    have hz : (scW s wNl q.2).2.2 = false := by
     cases hz : (scW s wNl q.2).2.2 with
     | false => rfl
     | true =>
      have h' : (scE s (scW s wNl q.2).2).2 = false := h
      rw [scE_bad hz, hz] at h'
      exact ff h'
    obtain ⟨a1, a2⟩ := eatNl hq hz
    obtain ⟨k, hk, a3, a4⟩ := hE a1
    obtain rfl : k = 0 := by omega
    rw [g0 hk] at a4
    have hend : (scW s wNl q.2).2.1 = s.size := by
     have h' : (scE s (scW s wNl q.2).2).2 = false := h
     have hle := scW_le (l := wNl) hq
     unfold scE at h'
     rw [if_neg (by rw [hz]; decide)] at h'
     have h2 : s.size ≤ (scW s wNl q.2).2.1 := by simpa using h'
     omega
    refine ⟨[], [], (List.append_nil _).symm, (List.append_nil _).symm, fun _ => rfl, rfl, rfl, ?_⟩
    rw [← hend]
    exact a4.trans a2
   ·rw [if_neg h0] at h ⊢
    by_cases h1 : q.1 = 1
    ·rw [if_pos h1] at h ⊢
     have ha : q.2.2 = false := by
      rcases hc with c | c
      ·omega
      ·exact c.2.1
     have hlt : x.1 < q.2.1 := by
      rcases hc with c | c
      ·omega
      ·exact c.2.2.1
     obtain ⟨k, hk, a3, a4⟩ := hE ha
     obtain rfl : k = 1 := by omega
     rw [g1 hk] at a4
     obtain ⟨b1, S, F, b2, b3, b4, b5, b6, b7⟩ := eatL m 2 ls (lf ++ [(pcF s q.2).1]) (pcF s q.2).2 (.inl rfl) (pcF_le hq) (left_step hb' hl (Nat.lt_of_lt_of_le hlt (pcF_ge s q.2)) (pcF_le hq)) h
     obtain rfl := b4 rfl
     obtain ⟨c1, c2, r, c3, c4⟩ := eatF hq b1
     refine ⟨[], (pcF s q.2).1 :: F, b2, ?_, fun _ => rfl, rfl, ?_, ?_⟩
     ·rw [b3, List.append_assoc]; rfl
     ·rw [List.all_cons, c2, b6]; rfl
     ·rw [List.map_cons, List.flatten_cons, c3]
      have e := a4.trans (c4.trans b7)
      simpa [List.append_assoc] using e
    ·rw [if_neg h1] at h ⊢
     by_cases h2 : q.1 = 2
     ·rw [if_pos h2] at h ⊢
      have ha : q.2.2 = false := by
       rcases hc with c | c
       ·omega
       ·exact c.2.1
      have hlt : x.1 < q.2.1 := by
       rcases hc with c | c
       ·omega
       ·exact c.2.2.1
      obtain ⟨k, hk, a3, a4⟩ := hE ha
      obtain rfl : k = 2 := by omega
      obtain ⟨h3, hg⟩ := g2 hk
      rw [hg] at a4
      obtain ⟨b1, S, F, b2, b3, b4, b5, b6, b7⟩ := eatL m n (ls ++ [(pcS s q.2).1]) lf (pcS s q.2).2 hn (pcS_le hq) (left_step hb' hl (Nat.lt_of_lt_of_le hlt (pcS_ge s q.2)) (pcS_le hq)) h
      obtain ⟨c1, c2, r, c3, c4⟩ := eatS hq b1
      refine ⟨(pcS s q.2).1 :: S, F, ?_, b3, fun h4 => by omega, ?_, b6, ?_⟩
      ·rw [b2, List.append_assoc]; rfl
      ·rw [List.all_cons, c2, b5]; rfl
      ·rw [List.map_cons, List.flatten_cons, c3]
       have e := a4.trans (c4.trans b7)
       simpa [List.append_assoc] using e
     ·exfalso
      rw [if_neg h2] at h
      rcases hc with c | c
      ·rw [catL_bad c.1] at h
       exact ff (c.1.symm.trans h)
      ·omega
termination_by m => m
theorem eatCat {s : ByteArray} (h : (pcCat s (0, false)).2.2.2.2 = false) : prB (pcCat s (0, false)).1 (pcCat s (0, false)).2.1 (pcCat s (0, false)).2.2.1 = true ∧ catT (pcCat s (0, false)).1 (pcCat s (0, false)).2.1 (pcCat s (0, false)).2.2.1 = s.data.toList := by
 unfold pcCat at h ⊢
 have h1 : ((0 : Nat), false).1 ≤ s.size := Nat.zero_le _
 have h2 : (scW s wHead (0, false)).2.1 ≤ s.size := scW_le h1
 obtain ⟨a1, S, F, a2, a3, _, a5, a6, a7⟩ := eatL (s.size + 2) 3 [] [] (scW s wNl (pcN s (scW s wHead (0, false)).2).2).2 (.inr rfl) (scW_le (pcN_le h2)) (by unfold left_; split <;> omega) h
 obtain ⟨b1, b2⟩ := eatNl (pcN_le h2) a1
 obtain ⟨c1, c2, c3⟩ := eatPN h2 b1
 obtain ⟨_, k, hk, d1, d2⟩ := eatW wdHead h1 c1
 obtain rfl : k = 0 := by simpa [wHead] using hk
 dsimp only
 rw [a2, a3]
 refine ⟨?_, Ate.all ?_⟩
 ·show (S.all seB && (F.all feB && inN _)) = true
  rw [a5, a6, c2]
  rfl
 ·have e := d2.trans (c3.trans (b2.trans a7))
  have et : topL (pcN s (scW s wHead (0, false)).2).1 = (wHead[0]).data.toList ++ ([32] ++ (numB (pcN s (scW s wHead (0, false)).2).1).data.toList ++ [10]) := by
   unfold topL
   rw [lineL_tl, lineL_tl, tl_cons]
   simp [tl, wHead]
  unfold catT
  rw [et]
  simpa [List.append_assoc] using e
end Go.Proofs.YtlfokdbnbmebiaaDoor.Q
end
section
namespace Go.Proofs.YtlfokdbnbmebiaaDoor.Q
open Go.RowKit Go.Proofs.YtlfokdbnbmebiaaDoorW.PrintWords Go.Proofs.YtlfokdbnbmebiaaDoorW.PrintLast
set_option maxRecDepth 100000
theorem awA : computuslaw26_awake.f = some true := by decide +kernel
theorem sameE : Ev (fun k => computusref17_Same.f k 0 [] [] 0 [] []) true := Ev.of (fun k => computusref17_Same.mono _ _ _ _ _ _ k) (k := 5) (by decide +kernel)
theorem catL_le {s : ByteArray} : ∀ (m n : Nat) (ls : List S41) (lf : List S43) (x : Sc), x.1 ≤ s.size → (catL s m n ls lf x).2.2.1 ≤ s.size
 | 0, n, ls, lf, x, h => h
 | m + 1, n, ls, lf, x, h => by
  rw [catL]
  split
  ·exact h
  ·split
   ·exact scE_le (scW_le (scW_le h))
   ·split
    ·exact catL_le m _ _ _ _ (pcF_le (scW_le h))
    ·split
     ·exact catL_le m _ _ _ _ (pcS_le (scW_le h))
     ·exact catL_le m _ _ _ _ (scW_le h)
end Go.Proofs.YtlfokdbnbmebiaaDoor.Q
namespace Go.Proofs.YtlfokdbnbmebiaaDoor.Pure
open Go.RowKit Go.Proofs.YtlfokdbnbmebiaaDoorW.PrintWords Go.Proofs.YtlfokdbnbmebiaaDoorW.PrintLast Go.Proofs.YtlfokdbnbmebiaaDoor.Q
theorem CattextAccepted : Q.computuslaw26_CattextAccepted.Pure := by
 intro a0 ha
 refine Ev.rounds (g := fun k => computuslaw26_CattextAccepted.f k a0) ?_
 unfold computuslaw26_CattextAccepted.f
 rw [awA]
 show Ev (fun k => computuslaw26_CattextAccepted.j0 k a0 (decide ((a0.size : Int) > 5000))) true
 refine Ev.step (fun k => computuslaw26_CattextAccepted.j0.eq_2 ..) ?_
 by_cases h : (a0.size : Int) > 5000
 ·refine Ev.congr (fun k => if_pos (by simpa using h)) ?_
  rw [awA]
  exact Ev.now _
 ·refine Ev.congr (fun k => if_neg (by simpa using h)) ?_
  have hp : cattext_Parse.f a0 = some (catP a0) := if_pos (by omega)
  rw [hp]
  have h1 : ((0 : Nat), false).1 ≤ a0.size := Nat.zero_le _
  have hl := catL_len a0 (a0.size + 2) 3 [] [] (scW a0 wNl (pcN a0 (scW a0 wHead (0, false)).2).2).2
  have hpos : (pcCat a0 (0, false)).2.2.2.1 ≤ a0.size := catL_le (a0.size + 2) 3 [] [] _ (scW_le (pcN_le (scW_le h1)))
  by_cases hb : (pcCat a0 (0, false)).2.2.2.2 = true
  ·have e : catP a0 = (0, [], [], ((pcCat a0 (0, false)).2.2.2.1 : Int), 6) := by unfold catP; rw [if_pos hb]
   rw [e]
   simp only [Option.bind_some]
   refine Ev.congr (fun k => (if_neg (by decide)).trans ((if_pos (by omega)).trans (if_pos (by omega)))) ?_
   exact Ev.bind sameE (Ev.now _)
  ·have e : catP a0 = ((pcCat a0 (0, false)).1, (pcCat a0 (0, false)).2.1, (pcCat a0 (0, false)).2.2.1, 0, 0) := by unfold catP; rw [if_neg hb]
   rw [e]
   obtain ⟨g1, g2⟩ := eatCat (by simpa using hb : (pcCat a0 (0, false)).2.2.2.2 = false)
   have h2 : (pcCat a0 (0, false)).2.1.length + (pcCat a0 (0, false)).2.2.1.length ≤ 0 + 0 + (a0.size + 2) := hl
   have hok := prB_ok g1 (by omega) (by omega)
   have hpr : cattext_Print.f (pcCat a0 (0, false)).1 (pcCat a0 (0, false)).2.1 (pcCat a0 (0, false)).2.2.1 = some a0 := by
    refine (if_pos hok).trans ?_
    rw [g2]
   have hpe := pr_ev (pcCat a0 (0, false)).1 (pcCat a0 (0, false)).2.1 (pcCat a0 (0, false)).2.2.1 (by omega) (by omega)
   rw [g1] at hpe
   simp only [Option.bind_some, if_true]
   refine Ev.bind hpe ?_
   refine Ev.congr (fun k => if_pos rfl) ?_
   rw [hpr]
   simp only [Option.bind_some, beq_self_eq_true]
   exact Ev.now _
end Go.Proofs.YtlfokdbnbmebiaaDoor.Pure
end
