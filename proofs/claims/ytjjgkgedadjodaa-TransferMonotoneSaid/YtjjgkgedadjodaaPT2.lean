/- What is proved: plain facts of the printed functions moves, Same, takenBefore, Taken, Room of layer 22, for short lists. -/
import Derived.Test.YtjjgkgedadjodaaQx3
import Derived.Test.YtjjgkgedadjodaaQx4
import Derived.Test.YtjjgkgedadjodaaQx11
import Derived.Test.YtjjgkgedadjodaaQx5
import Derived.Test.YtjjgkgedadjodaaQx6
import Derived.Test.YtjjgkgedadjodaaPT
namespace Go.Proofs.Ytjjgkgedadjodaa.Q
open Go.RowKit Go.Proofs.YtjjgkgedadjodaaW.PrintWords Go.Proofs.YtjjgkgedadjodaaW.PrintLast
set_option linter.unusedVariables false
set_option linter.unusedSimpArgs false

/-- How each of the laws begins. -/
theorem law_start (l0 : List Bool) (l1 : List (List Int)) {G : Nat → Bool → Option Bool} (F : Nat → Option Bool)
    (hF : ∀ k, F k = (computuslaw22_awake.f k).bind fun t => (if t = true then ((computusref22_Few.f k l0 l1).bind fun b => (G k (!b))) else (G k true)))
    (h1 : ∀ k, G (k + 1) true = (computuslaw22_awake.f k).bind fun t => (some t))
    (h2 : l0.length ≤ 400 → l1.length ≤ 400 → l1.flatten.length ≤ 400 → Ev (fun k => G k false) true) : ∃ k, F k = some true := by
  obtain ⟨b, hb, hb2⟩ := few_ev l0 l1
  have hT : Ev (fun k => G k true) true := Ev.step h1 (Ev.bind awake_ev (Ev.now true))
  refine Ev.rounds (Ev.congr hF (Ev.bind awake_ev ?_))
  refine Ev.congr (f := fun k => (computusref22_Few.f k l0 l1).bind fun b => (G k (!b))) (fun k => by rw [if_pos rfl]) (Ev.bind hb ?_)
  cases b with
  | false => exact hT
  | true => obtain ⟨a1, a2, a3⟩ := hb2 rfl; exact h2 a1 a2 a3

theorem rdM (l : List S36) (i : Nat) (h : i < l.length) : rd_T36 l (i : Int) = l[i] := by simp [rd_T36, List.getD, h]
theorem rdR (l : List S36) (i : Nat) (h : i < l.length) : rd_T39 (mvs l) (i : Int) = ⟨l[i].f0, l[i].f1, l[i].f2⟩ := by simp [rd_T39, mvs, List.getD, h]
theorem mvs_len (l : List S36) : (mvs l).length = l.length := by simp [mvs]
theorem rdI (l : List (List Int)) (i : Nat) (h : i < l.length) : rd_L3 l (i : Int) = l[i] := by simp [rd_L3, List.getD, h]

theorem moves_l0 (l : List S36) (hl : l.length ≤ 1000000) : ∀ (n i : Nat), i + n = l.length → Ev (fun k => computuslaw22_moves.l0 k l (mvs (l.take i)) (i : Int)) (mvs l) := by
  intro n
  induction n with
  | zero =>
    intro i hi
    refine Ev.ret fun k => ?_
    simp only [computuslaw22_moves.l0]
    rw [if_neg (by omega), List.take_of_length_le (by omega)]
  | succ n ih =>
    intro i hi
    refine Ev.step (fun k => ?_) (ih (i + 1) (by omega))
    simp only [computuslaw22_moves.l0]
    rw [if_pos (by omega), if_pos (by omega), if_pos (by rw [mvs_len, List.length_take]; omega), wN i (by omega), rdM l i (by omega), List.take_succ_eq_append_getElem (by omega)]
    simp only [mvs, List.map_append, List.map_cons, List.map_nil]
theorem moves_ev (l : List S36) (hl : l.length ≤ 1000000) : Ev (fun k => computuslaw22_moves.f k l) (mvs l) := moves_l0 l hl l.length 0 (by omega)

theorem same_l0 (l : List S39) (hl : l.length ≤ 1000000) : ∀ (n i : Nat), i + n = l.length → Ev (fun k => computusref22_Same.l0 k l l (i : Int)) true := by
  intro n
  induction n with
  | zero => intro i hi; refine Ev.ret fun k => ?_; simp only [computusref22_Same.l0]; rw [if_neg (by omega)]
  | succ n ih =>
    intro i hi
    refine Ev.step (fun k => ?_) (ih (i + 1) (by omega))
    simp only [computusref22_Same.l0]
    rw [if_pos (by omega), if_pos (by omega), if_pos (by omega), wN i (by omega)]
    simp
theorem same_ev (l : List S39) (hl : l.length ≤ 1000000) : Ev (fun k => computusref22_Same.f k l l) true := by
  refine Ev.congr (fun k => ?_) (same_l0 l hl l.length 0 (by omega))
  simp [computusref22_Same.f]

theorem before_l0 (l : List S36) (m : Nat) (hm : m ≤ l.length) (hl : l.length ≤ 1000000) (day : Int) : ∀ (n i : Nat), i + n = m → (∀ x ∈ l.take i, x.f2 ≠ day) → Ev (fun k => computuslaw22_takenBefore.l0 k l (m : Int) day (i : Int)) (decide (∃ x ∈ l.take m, x.f2 = day)) := by
  intro n
  induction n with
  | zero =>
    intro i hi hx
    refine Ev.ret fun k => ?_
    simp only [computuslaw22_takenBefore.l0]
    rw [if_neg (by omega), decide_eq_false]
    obtain rfl : i = m := by omega
    rintro ⟨x, h1, h2⟩
    exact hx x h1 h2
  | succ n ih =>
    intro i hi hx
    by_cases hd : (l[i]'(by omega)).f2 = day
    · refine Ev.ret fun k => ?_
      simp only [computuslaw22_takenBefore.l0]
      rw [if_pos (by omega), if_pos (by omega), if_pos (by omega), rdM l i (by omega), if_pos hd, decide_eq_true]
      exact ⟨l[i]'(by omega), List.mem_take_iff_getElem.2 ⟨i, by omega, rfl⟩, hd⟩
    · refine Ev.step (fun k => ?_) (ih (i + 1) (by omega) ?_)
      · simp only [computuslaw22_takenBefore.l0]
        rw [if_pos (by omega), if_pos (by omega), if_pos (by omega), rdM l i (by omega), if_neg hd, wN i (by omega)]
      · intro x h1
        rw [List.take_succ_eq_append_getElem (by omega)] at h1
        rcases List.mem_append.1 h1 with h1 | h1
        · exact hx x h1
        · simp at h1; subst h1; exact hd
theorem before_ev (l : List S36) (m : Nat) (hm : m ≤ l.length) (hl : l.length ≤ 1000000) (day : Int) : Ev (fun k => computuslaw22_takenBefore.f k l (m : Int) day) (decide (∃ x ∈ l.take m, x.f2 = day)) := before_l0 l m hm hl day m 0 (by omega) (by simp)

def takenV : List S36 → Int → Int × Int × Int × Bool
  | [], _ => (0, 0, 0, false)
  | m :: l, d => if m.f2 = d then (m.f0, m.f1, m.f2, true) else takenV l d
theorem taken_l0 (l : List S36) (hl : l.length ≤ 1000000) (day : Int) : ∀ (n i : Nat), i + n = l.length → Ev (fun k => transfer_Taken.l0 k day l (l.length : Int) (i : Int)) (takenV (l.drop i) day) := by
  intro n
  induction n with
  | zero =>
    intro i hi
    refine Ev.ret fun k => ?_
    simp only [transfer_Taken.l0]
    rw [if_neg (by omega), List.drop_of_length_le (by omega)]
    rfl
  | succ n ih =>
    intro i hi
    rw [List.drop_eq_getElem_cons (show i < l.length by omega)]
    unfold takenV
    by_cases hd : (l[i]'(by omega)).f2 = day
    · rw [if_pos hd]
      refine Ev.ret fun k => ?_
      simp only [transfer_Taken.l0]
      rw [if_pos (by omega), if_pos (by omega), if_pos (by omega), rdM l i (by omega), if_pos hd]
    · rw [if_neg hd]
      refine Ev.step (fun k => ?_) (ih (i + 1) (by omega))
      simp only [transfer_Taken.l0]
      rw [if_pos (by omega), if_pos (by omega), if_pos (by omega), rdM l i (by omega), if_neg hd, wN i (by omega)]
theorem taken_ev (l : List S36) (hl : l.length ≤ 1000000) (day : Int) : Ev (fun k => transfer_Taken.f k l day) (takenV l day) := taken_l0 l hl day l.length 0 (by omega)
theorem takenV_ok (l : List S36) (day : Int) : (takenV l day).2.2.2 = decide (∃ x ∈ l, x.f2 = day) := by
  induction l with
  | nil => simp [takenV]
  | cons m l ih =>
    unfold takenV
    by_cases h : m.f2 = day
    · simp [h]
    · rw [if_neg h, ih]; simp [h]

/-! ### Room -/
def fromDay : Nat → List (List Int) → Nat → Nat
  | _, [], acc => acc
  | i, fs :: rest, acc => fromDay (i + 1) rest (if fs.length > 0 then i + 1 else acc)
def roomCnt (free : List Bool) (out : List S36) : Nat → Nat → Nat → Nat
  | 0, _, acc => acc
  | n + 1, d, acc => roomCnt free out n (d + 1) (if free.getD d false = true ∧ ¬ ∃ x ∈ out, x.f2 = (d : Int) then acc + 1 else acc)
theorem fromDay_le : ∀ (l : List (List Int)) (i acc : Nat), acc ≤ i → fromDay i l acc ≤ i + l.length
  | [], i, acc, h => h
  | fs :: l, i, acc, h => by
    unfold fromDay
    have := fromDay_le l (i + 1) (if fs.length > 0 then i + 1 else acc) (by split <;> omega)
    simp only [List.length_cons]
    omega

theorem room_l1 (l0 : List Bool) (hl0 : l0.length ≤ 400) (out : List S36) (ho : out.length ≤ 1000000) : ∀ (n d acc : Nat), d + n = l0.length → acc ≤ d → Ev (fun k => transfer_Room.l1 k l0 out (acc : Int) (d : Int)) ((roomCnt l0 out n d acc : Nat) : Int) := by
  intro n
  induction n with
  | zero =>
    intro d acc hd ha
    refine Ev.ret fun k => ?_
    simp only [transfer_Room.l1]
    rw [if_neg (by omega)]
    rfl
  | succ n ih =>
    intro d acc hd ha
    have ht := taken_ev out ho (d : Int)
    have hok := takenV_ok out (d : Int)
    unfold roomCnt
    refine Ev.step (f := fun k => (transfer_Taken.f k out (d : Int)).bind fun bt117 => (if 0 ≤ (d : Int) then (if rdOf false l0 (d : Int) = true then (if bt117.2.2.2 = true then (transfer_Room.l1 k l0 out (acc : Int) (wrap64 ((d : Int) + 1))) else (transfer_Room.l1 k l0 out (wrap64 ((acc : Int) + 1)) (wrap64 ((d : Int) + 1)))) else (transfer_Room.l1 k l0 out (acc : Int) (wrap64 ((d : Int) + 1)))) else none)) (fun k => ?_) (Ev.bind ht ?_)
    · simp only [transfer_Room.l1]
      rw [if_pos (by omega)]
    · rw [rdB, hok, wN d (by omega), wN acc (by omega)]
      by_cases h1 : l0.getD d false = true
      · by_cases h2 : ∃ x ∈ out, x.f2 = (d : Int)
        · rw [if_neg (fun h => h.2 h2)]
          refine Ev.congr (fun k => ?_) (ih (d + 1) acc (by omega) (by omega))
          rw [if_pos (by omega), if_pos h1, if_pos (decide_eq_true h2)]
        · rw [if_pos ⟨h1, h2⟩]
          refine Ev.congr (fun k => ?_) (ih (d + 1) (acc + 1) (by omega) (by omega))
          rw [if_pos (by omega), if_pos h1, if_neg (by simpa using h2)]
      · rw [if_neg (fun h => h1 h.1)]
        refine Ev.congr (fun k => ?_) (ih (d + 1) acc (by omega) (by omega))
        rw [if_pos (by omega), if_neg h1]

theorem room_l0 (l0 : List Bool) (hl0 : l0.length ≤ 400) (l1 : List (List Int)) (heq : l0.length = l1.length) (out : List S36) (ho : out.length ≤ 1000000) : ∀ (n i acc : Nat), i + n = l1.length → acc ≤ i → Ev (fun k => transfer_Room.l0 k l0 out (acc : Int) l1 (l1.length : Int) (i : Int)) ((roomCnt l0 out (l0.length - fromDay i (l1.drop i) acc) (fromDay i (l1.drop i) acc) 0 : Nat) : Int) := by
  intro n
  induction n with
  | zero =>
    intro i acc hi ha
    rw [List.drop_of_length_le (by omega)]
    refine Ev.step (fun k => ?_) (room_l1 l0 hl0 out ho (l0.length - acc) acc 0 (by omega) (by omega))
    simp only [transfer_Room.l0]
    rw [if_neg (by omega)]
    rfl
  | succ n ih =>
    intro i acc hi ha
    have hil : i < l1.length := by omega
    rw [List.drop_eq_getElem_cons hil]
    unfold fromDay
    by_cases h : l1[i].length > 0
    · rw [if_pos h]
      refine Ev.step (fun k => ?_) (ih (i + 1) (i + 1) (by omega) (by omega))
      simp only [transfer_Room.l0]
      rw [if_pos (by omega), if_pos (by omega), if_pos (by omega), rdI l1 i hil, if_pos (by omega), wN i (by omega)]
    · rw [if_neg h]
      refine Ev.step (fun k => ?_) (ih (i + 1) acc (by omega) (by omega))
      simp only [transfer_Room.l0]
      rw [if_pos (by omega), if_pos (by omega), if_pos (by omega), rdI l1 i hil, if_neg (by omega), wN i (by omega)]

theorem room_ev (l0 : List Bool) (l1 : List (List Int)) (h0 : l0.length ≤ 400) {out : List S36} {e : Int} (ha : transfer_Assign.f l0 l1 = some (out, e)) (ho : out.length ≤ 400) (he : e = 0 → l0.length = l1.length) :
    Ev (fun k => transfer_Room.f k l0 l1) (if e = 0 then ((roomCnt l0 out (l0.length - fromDay 0 l1 0) (fromDay 0 l1 0) 0 : Nat) : Int) else 0) := by
  by_cases h : e = 0
  · rw [if_pos h]
    refine Ev.congr (fun k => ?_) (room_l0 l0 h0 l1 (he h) out (by omega) l1.length 0 0 (by omega) (by omega))
    simp only [transfer_Room.f, ha, Option.bind_some]
    rw [if_pos h]
    rfl
  · rw [if_neg h]
    refine Ev.congr (fun k => ?_) (Ev.now 0)
    simp only [transfer_Room.f, ha, Option.bind_some]
    rw [if_neg h]
end Go.Proofs.Ytjjgkgedadjodaa.Q
