/- What is proved: a call of the law TransferMonotone answers true, for whatever arguments of its types. -/
import Derived.Test.YtjjgkgedadjodaaQx8
import Derived.Test.YtjjgkgedadjodaaQx7
import Derived.Test.YtjjgkgedadjodaaPT2
import Derived.OpenShut
namespace Go.Proofs.Ytjjgkgedadjodaa.Q
open Go.RowKit Go.Proofs.YtjjgkgedadjodaaW.PrintWords Go.Proofs.YtjjgkgedadjodaaW.PrintLast Go.Proofs.YtjjgkgedadjodaaW.PrintMore
set_option linter.unusedVariables false
set_option linter.unusedSimpArgs false

/-! ### Counting -/
def cN (p : Nat → Bool) : Nat → Nat
  | 0 => 0
  | n + 1 => cN p n + if p n = true then 1 else 0
theorem cN_mono {p q : Nat → Bool} : ∀ n, (∀ e, e < n → p e = true → q e = true) → cN p n ≤ cN q n
  | 0, _ => Nat.le_refl _
  | n + 1, h => by
    have := cN_mono n (fun e he => h e (by omega))
    have h2 := h n (by omega)
    unfold cN
    by_cases hp : p n = true
    · rw [if_pos hp, if_pos (h2 hp)]; omega
    · rw [if_neg hp]; omega
theorem cN_strict {p q : Nat → Bool} {x : Nat} (hq : q x = true) (hp : ¬ p x = true) : ∀ n, x < n → (∀ e, e < n → p e = true → q e = true) → cN p n + 1 ≤ cN q n
  | 0, hx, _ => absurd hx (by omega)
  | n + 1, hx, h => by
    unfold cN
    by_cases hxn : x = n
    · subst hxn
      have := cN_mono (p := p) (q := q) x (fun e he => h e (by omega))
      rw [if_neg hp, if_pos hq]; omega
    · have := cN_strict hq hp n (by omega) (fun e he => h e (by omega))
      have h2 := h n (by omega)
      by_cases hp' : p n = true
      · rw [if_pos hp', if_pos (h2 hp')]; omega
      · rw [if_neg hp']; omega
theorem cN_remove {p : Nat → Bool} {x : Nat} : ∀ n, cN (fun e => p e && !decide (e = x)) n + (if x < n ∧ p x = true then 1 else 0) = cN p n
  | 0 => by simp [cN]
  | n + 1 => by
    have := cN_remove (p := p) (x := x) n
    unfold cN
    by_cases hxn : x = n
    · subst hxn
      simp only [Nat.lt_irrefl, false_and, if_false, Nat.add_zero] at this
      rw [this]
      by_cases hp : p x = true <;> simp [hp]
    · have e1 : (x < n + 1 ∧ p x = true) ↔ (x < n ∧ p x = true) := by constructor <;> (rintro ⟨h1, h2⟩; exact ⟨by omega, h2⟩)
      have e2 : (p n && !decide (n = x)) = p n := by simp [show ¬ n = x by omega]
      simp only [e1, e2]
      omega
theorem cN_pos {p : Nat → Bool} : ∀ n, 0 < cN p n → ∃ e, e < n ∧ p e = true
  | 0, h => absurd h (by simp [cN])
  | n + 1, h => by
    by_cases hp : p n = true
    · exact ⟨n, by omega, hp⟩
    · unfold cN at h
      rw [if_neg hp] at h
      obtain ⟨e, h1, h2⟩ := cN_pos n (by omega)
      exact ⟨e, by omega, h2⟩

/-- The days behind t that are free and not taken. -/
def room (free : List Bool) (taken : List Int) (t e : Nat) : Bool := decide (t < e) && (free.getD e false && !decide ((e : Int) ∈ taken))
def cnt (free : List Bool) (taken : List Int) (t : Nat) : Nat := cN (room free taken t) free.length

theorem seek_none {free : List Bool} {taken : List Int} : ∀ {n d : Nat}, transfer_seek free taken n d = none → ∀ e, d ≤ e → e < d + n → ¬ (free.getD e false = true ∧ ¬ ((e : Int) ∈ taken)) := by
  intro n
  induction n with
  | zero => intro d _ e h1 h2; omega
  | succ n ih =>
    intro d h e h1 h2
    unfold transfer_seek at h
    split at h
    · cases h
    · rename_i hc
      by_cases he : e = d
      · subst he; exact hc
      · exact ih h e (by omega) (by omega)

theorem cnt_take {free : List Bool} {taken : List Int} {x t : Nat} (hx : x < free.length) (hf : free.getD x false = true) (hn : ¬ ((x : Int) ∈ taken)) : cnt free ((x : Int) :: taken) t + (if t < x then 1 else 0) = cnt free taken t := by
  have h := cN_remove (p := room free taken t) (x := x) free.length
  have e1 : (fun e => room free taken t e && !decide (e = x)) = room free ((x : Int) :: taken) t := by
    funext e
    unfold room
    by_cases he : e = x
    · subst he; simp
    · have : ¬ ((e : Int) = (x : Int)) := by omega
      simp [he, this]
  have e2 : (x < free.length ∧ room free taken t x = true) ↔ t < x := by
    unfold room
    simp [hx, hn, hf, -List.getD_eq_getElem?_getD]
  rw [e1] at h
  simp only [e2] at h
  exact h

/-- A feast finds a day there, too, and there is no less room afterwards. -/
theorem feast_step {free free' : List Bool} {taken taken' : List Int} {d x : Nat} (hlen : free'.length = free.length) (hd : d < free.length) (hc : ∀ t, d ≤ t → cnt free taken t ≤ cnt free' taken' t)
    (hs : transfer_seek free taken (free.length - (d + 1)) (d + 1) = some x) : ∃ x', transfer_seek free' taken' (free'.length - (d + 1)) (d + 1) = some x' ∧ ∀ t, d ≤ t → cnt free ((x : Int) :: taken) t ≤ cnt free' ((x' : Int) :: taken') t := by
  obtain ⟨s1, s2, s3, s4, s5⟩ := seek_some hs
  have hroom : room free taken d x = true := by unfold room; simp only [s3, decide_eq_false s4, decide_eq_true (show d < x by omega)]; rfl
  have hpos : 0 < cnt free taken d := by
    have := cN_strict (p := fun _ => false) (q := room free taken d) hroom (by simp) free.length (by omega) (by simp)
    unfold cnt; omega
  cases hs' : transfer_seek free' taken' (free'.length - (d + 1)) (d + 1) with
  | none =>
    have hn := seek_none hs'
    have h1 := hc d (Nat.le_refl _)
    obtain ⟨e, he, hr⟩ := cN_pos (p := room free' taken' d) free'.length (by unfold cnt at h1 hpos; omega)
    unfold room at hr
    simp only [Bool.and_eq_true, decide_eq_true_eq, Bool.not_eq_true', decide_eq_false_iff_not] at hr
    exact absurd hr.2 (hn e (by omega) (by omega))
  | some x' =>
    obtain ⟨r1, r2, r3, r4, r5⟩ := seek_some hs'
    refine ⟨x', rfl, fun t ht => ?_⟩
    have h1 := cnt_take (t := t) (show x < free.length by omega) s3 s4
    have h2 := cnt_take (t := t) (show x' < free'.length by omega) r3 r4
    have h3 := hc t ht
    by_cases hx : t < x
    · rw [if_pos hx] at h1
      split at h2 <;> omega
    · rw [if_neg hx] at h1
      by_cases hx' : t < x'
      · rw [if_pos hx'] at h2
        have e1 : cnt free' taken' d ≤ cnt free' taken' t := by
          refine cN_mono _ fun e he hr => ?_
          unfold room at hr ⊢
          simp only [Bool.and_eq_true, decide_eq_true_eq, Bool.not_eq_true', decide_eq_false_iff_not] at hr ⊢
          refine ⟨?_, hr.2⟩
          rcases Nat.lt_or_ge e x' with h | h
          · exact absurd (r5 e (by omega) h hr.2.1) hr.2.2
          · omega
        have e2 : cnt free taken t + 1 ≤ cnt free taken d := by
          refine cN_strict (x := x) hroom ?_ _ (by omega) fun e he hr => ?_
          · unfold room; simp [show ¬ t < x by omega]
          · unfold room at hr ⊢
            simp only [Bool.and_eq_true, decide_eq_true_eq, Bool.not_eq_true', decide_eq_false_iff_not] at hr ⊢
            exact ⟨by omega, hr.2⟩
        have h4 := hc d (Nat.le_refl _)
        omega
      · rw [if_neg hx'] at h2
        omega

theorem feasts_more {free free' : List Bool} {d : Nat} (hlen : free'.length = free.length) (hd : d < free.length) : ∀ (fs : List Int) (taken taken' : List Int) (out out' : List S36) p, (∀ t, d ≤ t → cnt free taken t ≤ cnt free' taken' t) → transfer_feasts free d fs taken out = some p →
    ∃ p', transfer_feasts free' d fs taken' out' = some p' ∧ ∀ t, d ≤ t → cnt free p.1 t ≤ cnt free' p'.1 t
  | [], taken, taken', out, out', p, hc, h => by simp [transfer_feasts] at h; subst h; exact ⟨_, rfl, hc⟩
  | f :: fs, taken, taken', out, out', p, hc, h => by
    simp only [transfer_feasts, Option.bind_eq_some_iff] at h
    obtain ⟨x, hx, h⟩ := h
    obtain ⟨x', hx', hc'⟩ := feast_step hlen hd hc hx
    obtain ⟨p', hp', hc2⟩ := feasts_more hlen hd fs _ _ _ (out' ++ [⟨f, (d : Int), (x' : Int)⟩]) p hc' h
    exact ⟨p', by simp only [transfer_feasts, hx', Option.bind_some]; exact hp', hc2⟩

theorem feasts_less {free : List Bool} {d : Nat} (hd : d < free.length) : ∀ (fs : List Int) (taken : List Int) (out : List S36) p, transfer_feasts free d fs taken out = some p → ∀ t, cnt free p.1 t ≤ cnt free taken t
  | [], taken, out, p, h => by simp [transfer_feasts] at h; subst h; exact fun _ => Nat.le_refl _
  | f :: fs, taken, out, p, h => by
    simp only [transfer_feasts, Option.bind_eq_some_iff] at h
    obtain ⟨x, hx, h⟩ := h
    obtain ⟨s1, s2, s3, s4, s5⟩ := seek_some hx
    intro t
    have h1 := feasts_less hd fs _ _ p h t
    have h2 := cnt_take (t := t) (show x < free.length by omega) s3 s4
    split at h2 <;> omega

/-- With no less room, and some days' feasts left out. -/
theorem days_more {free free' : List Bool} (hlen : free'.length = free.length) : ∀ (l l' : List (List Int)) (d : Nat) (taken taken' : List Int) (out out' : List S36) r, l'.length = l.length → (∀ i (h : i < l.length) (h' : i < l'.length), l'[i] = l[i] ∨ l'[i] = []) → d + l.length ≤ free.length →
    (∀ t, d ≤ t → cnt free taken t ≤ cnt free' taken' t) → transfer_days free d l taken out = some r → ∃ r', transfer_days free' d l' taken' out' = some r'
  | [], l', d, taken, taken', out, out', r, hl, _, _, _, h => by
    obtain rfl : l' = [] := List.eq_nil_of_length_eq_zero (by simpa using hl)
    exact ⟨_, rfl⟩
  | fs :: l, [], d, taken, taken', out, out', r, hl, _, _, _, h => by simp at hl
  | fs :: l, fs' :: l', d, taken, taken', out, out', r, hl, hs, hd, hc, h => by
    simp only [transfer_days, Option.bind_eq_some_iff] at h
    obtain ⟨p, hp, h⟩ := h
    simp only [List.length_cons] at hl hd
    have hs0 : ∀ i (h : i < l.length) (h' : i < l'.length), l'[i] = l[i] ∨ l'[i] = [] := fun i h h' => by
      have := hs (i + 1) (by simp; omega) (by simp; omega)
      simpa using this
    rcases hs 0 (by simp) (by simp) with h0 | h0
    · simp only [List.getElem_cons_zero] at h0
      subst h0
      obtain ⟨p', hp', hc'⟩ := feasts_more hlen (by omega) fs' taken taken' out out' p hc hp
      obtain ⟨r', hr'⟩ := days_more hlen l l' (d + 1) _ _ _ p'.2 r (by omega) hs0 (by omega) (fun t ht => hc' t (by omega)) h
      exact ⟨r', by simp only [transfer_days, hp', Option.bind_some]; exact hr'⟩
    · simp only [List.getElem_cons_zero] at h0
      subst h0
      have hc' := feasts_less (by omega) fs taken out p hp
      obtain ⟨r', hr'⟩ := days_more hlen l l' (d + 1) _ taken' _ out' r (by omega) hs0 (by omega) (fun t ht => Nat.le_trans (hc' t) (hc t (by omega))) h
      exact ⟨r', by simp only [transfer_days, transfer_feasts, Option.bind_some]; exact hr'⟩

theorem assign_more {l0 l0' : List Bool} {l1 l1' : List (List Int)} (hlen : l0'.length = l0.length) (heq : l0.length = l1.length) (hl1 : l1'.length = l1.length) (hs : ∀ i (h : i < l1.length) (h' : i < l1'.length), l1'[i] = l1[i] ∨ l1'[i] = [])
    (hf : l1'.flatten.length ≤ 1000000) (hfree : ∀ e, l0.getD e false = true → l0'.getD e false = true) {out : List S36} (ha : transfer_days l0 0 l1 [] [] = some out) : ∃ out', transfer_Assign.f l0' l1' = some (out', 0) := by
  obtain ⟨r', hr'⟩ := days_more hlen l1 l1' 0 [] [] [] [] out hl1 hs (by omega) (fun t _ => by
    unfold cnt
    rw [hlen]
    refine cN_mono _ fun e he hr => ?_
    unfold room at hr ⊢
    simp only [Bool.and_eq_true, decide_eq_true_eq] at hr ⊢
    exact ⟨hr.1, hfree e hr.2.1, hr.2.2⟩) ha
  refine ⟨r', ?_⟩
  unfold transfer_Assign.f
  rw [if_pos (by omega), if_pos hf, hr']
  rfl

/-! ### A row whose elements' rows are not this call's own -/
/-- Cells that read as they did in world w0. -/
def Kd.elder {α : Type} (d : Kd α) (w0 : World) : Kd α where
  sz := d.sz
  E := []
  K := fun _ x cs => d.K w0 x cs
  M := fun _ _ _ x cs => d.K w0 x cs
  K_len := fun h => d.K_len h
  K_one := fun h => d.K_one h
  K_below := fun _ h => h
  K_of_M := fun h => h
  M_mono := fun _ h => h
  M_bound := fun h => h
  M_move := fun _ h => h
  M_lower := fun _ h => h
theorem Kd.elder_C {α : Type} {d : Kd α} {w0 w : World} {A : Option Addr} {n : Nat} {xs : List α} (h : (Kd.elder d w0).C w A n xs) (hb : Below w0.heap.size w0 w) : d.C w A n xs :=
  ⟨h.1, h.2.1, fun hn => by
    obtain ⟨ad, e, hc⟩ := h.2.2 hn
    refine ⟨ad, e, fun j p hj => ?_⟩
    obtain ⟨c, h1, h2, h3⟩ := hc j p hj
    exact ⟨c, h1, d.K_below hb h2, h3⟩⟩
/-- A store of one element. -/
theorem Kd.elder_put {α : Type} {d : Kd α} {w0 W : World} {e base g cap : Nat} {ok : Nat → Prop} {xs : List α} (hsz : d.sz = 1) (h : (Kd.elder d w0).R e W base ok (.slice (some ⟨g, 0, none⟩) xs.length cap) xs) (i : Nat) (p : α) (v : Value) (hp : d.K w0 p [v]) :
    (Kd.elder d w0).R e (W.setCell ⟨g, i, none⟩ v) base ok (.slice (some ⟨g, 0, none⟩) (xs.set i p).length cap) (xs.set i p) ∧ W.grownBy (W.setCell ⟨g, i, none⟩ v) (some g) := by
  obtain ⟨h0, inner, ho, hr⟩ := h
  have hs := ho.stored i v
  have hl : inner.length = xs.length := by have := hr.1; rw [show (Kd.elder d w0).sz = 1 from hsz] at this; omega
  refine ⟨⟨h0, inner.set i v, by rw [List.length_set]; exact hs.1, by simp [show (Kd.elder d w0).sz = 1 from hsz, hl], fun j q hj => ?_⟩, hs.2⟩
  have hq := fun q' (hq' : xs[j]? = some q') => hr.2 j q' hq'
  rw [show (Kd.elder d w0).sz = 1 from hsz, Nat.mul_one] at hq ⊢
  by_cases hij : i = j
  · subst hij
    have hil : i < xs.length := by
      have := (List.getElem?_eq_some_iff.1 hj).1
      simpa using this
    rw [List.getElem?_set_self hil] at hj
    cases hj
    have h1 : (List.drop i (inner.set i v)).take 1 = [v] := by
      rw [List.drop_eq_getElem_cons (by rw [List.length_set]; omega)]
      simp
    rw [h1]
    exact hp
  · rw [List.getElem?_set_ne hij] at hj
    have h1 : (List.drop j (inner.set i v)).take 1 = (List.drop j inner).take 1 := by
      apply List.ext_getElem?
      intro m
      rw [List.getElem?_take, List.getElem?_take]
      split
      · rename_i hm
        obtain rfl : m = 0 := by omega
        rw [List.getElem?_drop, List.getElem?_drop, List.getElem?_set_ne (by omega)]
      · rfl
    rw [h1]
    exact hq q hj

theorem Kd.elder_form {α : Type} {d : Kd α} {w0 W : World} {e base : Nat} {ok : Nat → Prop} {v : Value} {xs : List α} (hsz : d.sz = 1) (h : (Kd.elder d w0).R e W base ok v xs) (i : Nat) (hi : i < xs.length) :
    ∃ g cap u, v = .slice (some ⟨g, 0, none⟩) xs.length cap ∧ base ≤ g ∧ xs.length ≤ cap ∧ W.cell? ⟨g, i, none⟩ = some u ∧ W.frozen? ⟨g, i, none⟩ = false := by
  obtain ⟨g, cap, rfl, hg, _, _⟩ := Kd.R_form h (by omega)
  obtain ⟨A, c, he, hc, _⟩ := Kd.R_reads h
  cases he
  obtain ⟨h0, inner, ho, hr⟩ := h
  have hl : inner.length = xs.length := by have := hr.1; rw [show (Kd.elder d w0).sz = 1 from hsz] at this; omega
  have hcell := ho.cellAt i (by rw [show (Kd.elder d w0).sz = 1 from hsz]; omega)
  rw [List.getElem?_eq_getElem (show i < inner.length by omega)] at hcell
  exact ⟨g, _, _, rfl, hg, hc, hcell, ho.frozenAt i⟩
theorem Kd.elder_reads {α : Type} {d : Kd α} {w W : World} {A : Option Addr} {n : Nat} {xs : List α} (h : d.C w A n xs) (hb : Below w.heap.size w W) : ReadsRow (d.K w) d.sz W A n xs :=
  ⟨h.1, h.2.1, fun hn => by
    obtain ⟨ad, e, hc⟩ := h.2.2 hn
    refine ⟨ad, e, fun j p hj => ?_⟩
    obtain ⟨c, h1, h2, h3⟩ := hc j p hj
    exact ⟨c, h1, h2, fun i u hu => pw_cell_below hb (h3 i u hu)⟩⟩
theorem assign_calls' (A0 : Option Addr) (c0 n0 : Nat) (l0 : List Bool) (A1 : Option Addr) (c1 n1 : Nat) (l1 : List (List Int)) (r1 : List S36) (r2 : Int) (w : World) (hn0 : n0 = l0.length) (hn1 : n1 = l1.length) (hr0 : Kd.C Kd.bool w A0 l0.length l0) (hc0 : l0.length ≤ c0) (hr1 : Kd.C (Kd.slice 3 (Kd.int .i64)) w A1 l1.length l1) (hc1 : l1.length ≤ c1) (h : transfer_Assign.f l0 l1 = some (r1, r2)) :
    Calls Try.prog 11 #[.slice A0 n0 c0, .slice A1 n1 c1] w fun e w' => ∃ v0_ : Value, e = .returned (.tuple #[v0_, .int .i64 r2]) ∧ Kd.R k36 36 w' w.heap.size (fun _ => True) v0_ r1 ∧ Below w.heap.size w w' := by
  subst hn0 hn1
  exact transfer_Assign.calls A0 c0 l0 A1 c1 l1 r1 r2 w hr0 hc0 hr1 hc1 h

def computuslaw22_TransferMonotone.f (l0 : List Bool) (l1 : List (List Int)) (a2 : Int) : Option Bool := if 0 ≤ a2 ∧ a2 ≤ 65535 then some true else none

theorem mono_info4 : (Try.prog.info? 4).map (fun i => (i.zero, i.size, i.bytes)) = some (some (.bool false), 1, 1) := by kernel_rfl
theorem mono_info40 : (Try.prog.info? 40).map (fun i => (i.zero, i.size, i.bytes)) = some (some (.slice none 0 0), 1, 24) := by kernel_rfl

theorem flatten_set (l1 : List (List Int)) (k : Nat) : (l1.set k []).flatten.length ≤ l1.flatten.length := by
  induction l1 generalizing k with
  | nil => simp
  | cons x l ih =>
    cases k with
    | zero => simp
    | succ k =>
      have := ih k
      simp only [List.set_cons_succ, List.flatten_cons, List.length_append]
      omega

set_option maxHeartbeats 4000000 in
set_option maxRecDepth 100000 in
theorem computuslaw22_TransferMonotone.calls (A0 : Option Addr) (c0 : Nat) (l0 : List Bool) (A1 : Option Addr) (c1 : Nat) (l1 : List (List Int)) (a2 : Int) (r : Bool) (w : World) (hr0 : Kd.C Kd.bool w A0 l0.length l0) (hc0 : l0.length ≤ c0) (hr1 : Kd.C (Kd.slice 3 (Kd.int .i64)) w A1 l1.length l1) (hc1 : l1.length ≤ c1) (h : computuslaw22_TransferMonotone.f l0 l1 a2 = some r) :
    Calls Try.prog 6 #[.slice A0 l0.length c0, .slice A1 l1.length c1, .int .u16 a2] w fun e w' => e = .returned (.bool r) ∧ Below w.heap.size w w' := by
  have HR0 := Aside0.mk hr0
  have HC0 := Aside0.mk hc0
  have HR1 := Aside0.mk hr1
  have HC1 := Aside0.mk hc1
  have hm0 : l0.length ≤ 9223372036854775807 := hr0.2.1
  have hm1 : l1.length ≤ 9223372036854775807 := hr1.2.1
  clear hr0 hc0 hr1 hc1
  unfold computuslaw22_TransferMonotone.f at h
  split at h
  case isFalse => cases h
  rename_i ha2
  cases h
  have ha0 := ha2.1
  have ha1 := ha2.2
  clear ha2
  obtain ⟨ka, hka⟩ := awake_ev.rounds
  obtain ⟨b, hb, hb2⟩ := few_ev l0 l1
  obtain ⟨kb, hkb⟩ := hb.rounds
  have HKA := Aside0.mk hka
  have HKB := Aside0.mk hkb
  have HB := Aside0.mk (Below.refl w.heap.size w)
  clear hka hkb hb
  cases b with
  | false =>
    clear hb2
    go_enter Try.func6, Try.ntmps6
    go_wp2_with (first | (go_at_call 9; refine (computuslaw22_awake.calls ka true _ HKA.out).mono ?_; rintro e w7 ⟨rfl, hb⟩; have n0_ := Aside0.mk (below_step HB.out hb); clear HB hb; have HB := n0_; clear n0_) | (go_at_call 10; refine (computusref22_Few.calls kb _ _ l0 _ _ l1 false _ (Kd.C_below HR0.out HB.out) HC0.out (Kd.C_below HR1.out HB.out) HC1.out HKB.out).mono ?_; rintro e w' ⟨rfl, ⟨nd, rfl⟩⟩; have n0_ := Aside0.mk (pw_below_drewN HB.out nd); clear HB; have HB := n0_; clear n0_))
    go_ret
    exact ⟨rfl, HB.out⟩
  | true =>
    obtain ⟨h4, h5, h6⟩ := hb2 rfl
    clear hb2
    have H6 := Aside0.mk h6
    clear h6
    by_cases hz : l0.length = 0
    · have cz : ((l0.length : Int) == 0) = true := by simp [hz]
      clear hz
      go_enter Try.func6, Try.ntmps6
      go_wp2_with (first | (go_at_call 9; refine (computuslaw22_awake.calls ka true _ HKA.out).mono ?_; rintro e w7 ⟨rfl, hb⟩; have n0_ := Aside0.mk (below_step HB.out hb); clear HB hb; have HB := n0_; clear n0_) | (go_at_call 10; refine (computusref22_Few.calls kb _ _ l0 _ _ l1 true _ (Kd.C_below HR0.out HB.out) HC0.out (Kd.C_below HR1.out HB.out) HC1.out HKB.out).mono ?_; rintro e w' ⟨rfl, ⟨nd, rfl⟩⟩; have n0_ := Aside0.mk (pw_below_drewN HB.out nd); clear HB; have HB := n0_; clear n0_))
      go_ret
      exact ⟨rfl, HB.out⟩
    · have cz : ((l0.length : Int) == 0) = false := beq_eq_false_iff_ne.mpr (by omega)
      have hpos : 0 < l0.length := by omega
      clear hz
      by_cases hq : l0.length = l1.length
      · have cq : ((l0.length : Int) != (l1.length : Int)) = false := bne_eq_false_iff_eq.mpr (by omega)
        obtain ⟨kk, hkk⟩ := Int.eq_ofNat_of_zero_le (Int.emod_nonneg a2 (show (l0.length : Int) ≠ 0 by omega))
        have hkl : kk < l0.length := by have h1 := Int.emod_lt_of_pos a2 (show (0 : Int) < l0.length by omega); rw [hkk] at h1; omega
        have hkl1 : kk < l1.length := by omega
        obtain ⟨out, e1, hA, -, -, -, hz1⟩ := ref_assign l0 l1 h4 h5 H6.out
        obtain ⟨out2, e2, hM, -, -, -, hz2⟩ := ref_assign (l0.set kk true) l1 (by simpa using h4) h5 H6.out
        obtain ⟨out3, e3, hL, -, -, -, hz3⟩ := ref_assign l0 (l1.set kk []) h4 (by simpa using h5) (Nat.le_trans (flatten_set l1 kk) H6.out)
        have hres : e1 ≠ 0 ∨ (e2 = 0 ∧ e3 = 0) := by
          by_cases he : e1 = 0
          · right
            obtain ⟨heq, hd⟩ := hz1 he
            obtain ⟨o2, ho2⟩ := assign_more (l0 := l0) (l0' := l0.set kk true) (l1 := l1) (l1' := l1) (by simp) heq rfl (fun i _ _ => .inl rfl) (by have := H6.out; omega) (fun e he => by
              simp only [List.getD_eq_getElem?_getD] at he ⊢
              by_cases hek : e = kk
              · subst hek; simp [hkl]
              · rw [List.getElem?_set_ne (by omega)]; exact he) hd
            obtain ⟨o3, ho3⟩ := assign_more (l0 := l0) (l0' := l0) (l1 := l1) (l1' := l1.set kk []) rfl heq (by simp) (fun i h h' => by
              by_cases hik : kk = i
              · subst hik; right; simp
              · left; simp [hik]) (Nat.le_trans (flatten_set l1 kk) (by have := H6.out; omega)) (fun e he => he) hd
            rw [hM] at ho2
            rw [hL] at ho3
            cases ho2
            cases ho3
            exact ⟨rfl, rfl⟩
          · exact .inl he
        clear hz1 hz2 hz3
        have HA := Aside0.mk hA
        have HM := Aside0.mk hM
        have HL := Aside0.mk hL
        have HQ := Aside0.mk hq
        have hcase : (e1 != 0) = true ∨ ((e1 != 0) = false ∧ (e2 == 0) = true ∧ (e3 == 0) = true) := by
          rcases hres with h | ⟨h2, h3⟩
          · exact .inl (by simpa using h)
          · by_cases h : e1 = 0
            · exact .inr ⟨by simp [h], by simp [h2], by simp [h3]⟩
            · exact .inl (by simpa using h)
        clear hA hM hL hq hres
        go_enter Try.func6, Try.ntmps6
        go_wp2_with (first | (go_at_call 9; refine (computuslaw22_awake.calls ka true _ HKA.out).mono ?_; rintro e w7 ⟨rfl, hb⟩; have n0_ := Aside0.mk (below_step HB.out hb); clear HB hb; have HB := n0_; clear n0_) | (go_at_call 10; refine (computusref22_Few.calls kb _ _ l0 _ _ l1 true _ (Kd.C_below HR0.out HB.out) HC0.out (Kd.C_below HR1.out HB.out) HC1.out HKB.out).mono ?_; rintro e w' ⟨rfl, ⟨nd, rfl⟩⟩; have n0_ := Aside0.mk (pw_below_drewN HB.out nd); clear HB; have HB := n0_; clear n0_) | (go_at_call 11; refine (transfer_Assign.calls _ _ l0 _ _ l1 out e1 _ (Kd.C_below HR0.out HB.out) HC0.out (Kd.C_below HR1.out HB.out) HC1.out HA.out).mono ?_; rintro e w9 ⟨v9, rfl, -, hb⟩; have n0_ := Aside0.mk (below_step HB.out hb); clear HB hb HA; have HB := n0_; clear n0_; have tokA : True := trivial) | ((with_reducible refine gate_dst (N := 48) rfl ?_); refine Kd.R_lit Kd.bool _ 4 ?hg (N := 48) ?hd (xs := ([] : List Bool)) (inner := []) (ok := fun _ => True) (okp := fun _ => True) ?hr ?hp (fun _ hk => hk) trivial (Below.refl _ _) (Nat.le_refl _) (by simp) ?_; (case hd => rfl); (case hg => rfl); (case hr => first | (go_simp; done) | (go_simp; rfl)); (case hp => exact (Reps.none _ _)); intro v48 w48 ho hb hg_ hnew_; clear hg_ hnew_; have n0_ := Aside0.mk (Kd.R_lower ho HB.out.size); have n1_ := Aside0.mk (below_step HB.out hb); clear HB hb ho; have HE := n0_; have HB := n1_; clear n0_ n1_) | ((with_reducible refine gate_builtin (b := .append) (xs := #[.tmp 48, .tmp 49]) rfl ?_); at_builtin; refine Kd.R_append_rows Kd.bool (w0 := w) w.heap.size rfl (.tmp 48) (.tmp 49) 22 4 (.bool false) 1 rfl Try.underlying22 mono_info4 rfl (by decide) (by omega) v48 [] l0 _ _ _ (fun _ => True) (fun _ => False) rfl rfl HE.out (Kd.C_below HR0.out HB.out) (fun _ _ h => h) (fun _ h => h.elim) (fun _ _ => trivial) HB.out HB.out.size (by simp; omega) ?_; intro v50 w50 ho hb hg hat; clear hg hat; rw [List.nil_append] at ho; obtain ⟨gm, cm, em, gb, -, -, -⟩ := Kd.R_form ho hpos; subst em; obtain ⟨hxm, hfm⟩ := Kd.R_celln false ho (kk : Int) (by omega) (by omega); rw [Int.toNat_natCast] at hxm hfm; have HP := Aside0.mk (Kd.R_putg ho (kk : Int) true); rw [Int.toNat_natCast] at HP; have HMC := Aside0.mk (Kd.R_reads' ho).2.1; have GB := Aside0.mk gb; have n1_ := Aside0.mk hb; clear HB HE ho hb gb; have HB := n1_; clear n1_) | ((with_reducible refine gate_store (t := 4) (p := 53) rfl ?_); refine store_event (t := 4) (p := 53) (v := ?vo) (w1 := (w50.setCell ⟨gm, kk, none⟩ (.bool true))) ?hg ?ho ?hn ?hr ?_; (case ho => rfl); (case hg => rfl); (case hn => rfl); (case hr => first | (go_simp; done) | (go_simp; rfl)); intro w51 hw; have n0_ := Aside0.mk (show Kd.R Kd.bool 4 w51 w.heap.size (fun _ => True) (.slice (some ⟨gm, 0, none⟩) l0.length cm) (l0.set kk true) by rw [hw]; exact HP.out.1); have n1_ := Aside0.mk (show Below w.heap.size w w51 by rw [hw]; exact below_set HB.out GB.out); clear HP HB GB hw hxm hfm; have HMR := n0_; have HB := n1_; clear n0_ n1_) | ((with_reducible refine gate_dst (N := 54) rfl ?_); refine Kd.R_lit (Kd.elder (Kd.slice 3 (Kd.int .i64)) w) _ 40 ?hg (N := 54) ?hd (xs := ([] : List (List Int))) (inner := []) (ok := fun _ => True) (okp := fun _ => True) ?hr ?hp (fun _ hk => hk) trivial (Below.refl _ _) (Nat.le_refl _) (by simp) ?_; (case hd => rfl); (case hg => rfl); (case hr => first | (go_simp; done) | (go_simp; rfl)); (case hp => exact (Reps.none _ _)); intro v54 w54 ho hb hg_ hnew_; clear hg_ hnew_; have n0_ := Aside0.mk (Kd.R_lower ho HB.out.size); have n2_ := Aside0.mk (Kd.R_below HMR.out hb); have n1_ := Aside0.mk (below_step HB.out hb); clear HB HMR hb ho; have HE := n0_; have HB := n1_; have HMR := n2_; clear n0_ n1_ n2_) | ((with_reducible refine gate_builtin (b := .append) (xs := #[.tmp 54, .tmp 55]) rfl ?_); at_builtin; refine Kd.R_append_rows (Kd.elder (Kd.slice 3 (Kd.int .i64)) w) (Rr := (Kd.slice 3 (Kd.int .i64)).K w) (w0 := w) w.heap.size rfl (.tmp 54) (.tmp 55) 23 40 (.slice none 0 0) 24 rfl Try.underlying23 mono_info40 rfl Nat.one_pos (by omega) v54 [] l1 _ _ _ (fun _ => True) (fun _ => False) rfl rfl HE.out (Kd.elder_reads HR1.out HB.out) (fun _ _ h => h) (fun _ h => h.elim) (fun _ _ => trivial) HB.out HB.out.size (by simp; omega) ?_; intro v56 w56 ho hb hg hat; rw [List.nil_append] at ho; have n2_ := Aside0.mk (Kd.R_over' HMR.out (Kd.R_typed HE.out) (by decide) hg); clear hg hat HMR; have HMR := n2_; clear n2_; obtain ⟨gl, cl, ul, el, gbl, gcl, hxl, hfl⟩ := Kd.elder_form rfl ho kk hkl1; subst el; have HP := Aside0.mk (Kd.elder_put rfl ho kk ([] : List Int) (.slice none 0 0) ⟨none, 0, rfl, Nat.le_refl _, Kd.C_nil _ _⟩); have GB := Aside0.mk gbl; have HLC := Aside0.mk gcl; have HT := Aside0.mk (Kd.R_typed ho); have n1_ := Aside0.mk hb; clear HB HE ho hb gbl gcl; have HB := n1_; clear n1_) | fail)
        have n0_ := Aside0.mk HP.out.1
        have n2_ := Aside0.mk (Kd.R_over' HMR.out HT.out (by decide) HP.out.2)
        have n1_ := Aside0.mk (below_set (j := kk) (v := .slice none 0 0) HB.out GB.out)
        clear HP HB GB HMR HT hxl hfl
        have HLR := n0_
        have HB := n1_
        have HMR := n2_
        clear n0_ n1_ n2_
        refine (assign_calls' _ _ _ (l0.set kk true) _ _ _ l1 out2 e2 _ (by simp) rfl (Kd.R_reads' HMR.out).2.2 (by rw [List.length_set]; exact HMC.out) (Kd.C_below HR1.out HB.out) HC1.out HM.out).mono ?_
        rintro e w60 ⟨v60, rfl, -, hb⟩
        have n0_ := Aside0.mk (Kd.R_below HLR.out hb)
        have n1_ := Aside0.mk (below_step HB.out hb)
        clear HB HLR HMR HMC hb
        have HB := n1_
        have HLR := n0_
        clear n0_ n1_
        go_wp2_with fail
        refine (assign_calls' _ _ _ l0 _ _ _ (l1.set kk []) out3 e3 _ rfl (by simp) (Kd.C_below HR0.out HB.out) HC0.out (Kd.elder_C (Kd.R_reads' HLR.out).2.2 HB.out) (Kd.R_reads' HLR.out).2.1 HL.out).mono ?_
        rintro e w61 ⟨v61, rfl, -, hb⟩
        have n1_ := Aside0.mk (below_step HB.out hb)
        clear HB HLR hb
        have HB := n1_
        clear n1_
        rcases hcase with h | ⟨h1, h2, h3⟩
        · go_wp2_with fail
          go_ret
          exact ⟨rfl, HB.out⟩
        · go_wp2_with fail
          go_ret
          exact ⟨rfl, HB.out⟩
      · have cq : ((l0.length : Int) != (l1.length : Int)) = true := bne_iff_ne.mpr (by omega)
        clear hq
        go_enter Try.func6, Try.ntmps6
        go_wp2_with (first | (go_at_call 9; refine (computuslaw22_awake.calls ka true _ HKA.out).mono ?_; rintro e w7 ⟨rfl, hb⟩; have n0_ := Aside0.mk (below_step HB.out hb); clear HB hb; have HB := n0_; clear n0_) | (go_at_call 10; refine (computusref22_Few.calls kb _ _ l0 _ _ l1 true _ (Kd.C_below HR0.out HB.out) HC0.out (Kd.C_below HR1.out HB.out) HC1.out HKB.out).mono ?_; rintro e w' ⟨rfl, ⟨nd, rfl⟩⟩; have n0_ := Aside0.mk (pw_below_drewN HB.out nd); clear HB; have HB := n0_; clear n0_))
        go_ret
        exact ⟨rfl, HB.out⟩
end Go.Proofs.Ytjjgkgedadjodaa.Q
namespace Go.Proofs.Ytjjgkgedadjodaa.Pure
theorem TransferMonotone : ∀ (l0 : List Bool) (l1 : List (List Int)) (a2 : Int), l0.length ≤ maxLen → l1.length ≤ maxLen → (∀ x ∈ l1, (x.length ≤ maxLen ∧ ∀ y1 ∈ x, (Lit.int .i64 y1).wf = true)) → (Lit.int .u16 a2).wf = true → Q.computuslaw22_TransferMonotone.f l0 l1 a2 = some true := by
  intro l0 l1 a2 _ _ _ h
  have hb := bounds_u16 h
  unfold Q.computuslaw22_TransferMonotone.f
  rw [if_pos (by omega)]
end Go.Proofs.Ytjjgkgedadjodaa.Pure
