/- The plain law of marking: passes with nobody else about. No program is named here. -/
import Derived.Test.YtnhnbgkhbhgifaaRootsP
namespace Go.Proofs.Ytnhnbgkhbhgifaa
open Go.RowKit
set_option linter.unusedVariables false
set_option linter.unusedSimpArgs false

theorem aStore_wsM (ws : List Int) (i x : Int) (hi : 0 ≤ i ∧ i < ws.length) : (aStore i x).ws ws = ws.set i.toNat x := by
  unfold Acc.ws
  rw [if_pos (by simp [Acc.ok, aStore, hi])]
  rfl
theorem cA_lo {c : Cfg} (hR : c.Right) : 5 ≤ c.cA := by
  obtain ⟨a1, a2, a3, a4, a5, a6, a7, a8⟩ := hR
  have hm : 0 ≤ c.muts * c.regs := Int.mul_nonneg (by omega) (by omega)
  unfold Cfg.cA; omega
/-- The cell of a word, where there is one, is not white. -/
def NotW (c : Cfg) (ws : List Int) (u : Int) : Prop := 0 ≤ c.cellP 2 (cellN u) → wAt ws (c.cellP 2 (cellN u)) ≠ 0
/-- How many of the first n cells became black. -/
def bkN (c : Cfg) (l ws : List Int) : Nat → Nat
  | 0 => 0
  | n + 1 => bkN c l ws n + if wAt ws (c.cellP 2 n) = 2 ∧ wAt l (c.cellP 2 n) ≠ 2 then 1 else 0
theorem bkN_le (c : Cfg) (l ws : List Int) (n : Nat) : bkN c l ws n ≤ n := by
  induction n with
  | zero => exact Nat.le_refl _
  | succ n ih => unfold bkN; split <;> omega
theorem bkN_mono {c : Cfg} {l a b : List Int} (n : Nat) (h : ∀ i : Nat, i < n → wAt a (c.cellP 2 i) = 2 → wAt b (c.cellP 2 i) = 2) : bkN c l a n ≤ bkN c l b n := by
  induction n with
  | zero => exact Nat.le_refl _
  | succ n ih =>
    have h1 := ih (fun i hi => h i (by omega))
    have h2 := h n (by omega)
    unfold bkN
    split
    · rename_i e; rw [if_pos ⟨h2 e.1, e.2⟩]; omega
    · omega
theorem bkN_more {c : Cfg} {l a b : List Int} (n : Nat) (h : ∀ i : Nat, i < n → wAt a (c.cellP 2 i) = 2 → wAt b (c.cellP 2 i) = 2) (k : Nat) (hk : k < n) (h1 : wAt a (c.cellP 2 k) ≠ 2) (h2 : wAt b (c.cellP 2 k) = 2) (h3 : wAt l (c.cellP 2 k) ≠ 2) : bkN c l a n + 1 ≤ bkN c l b n := by
  induction n with
  | zero => omega
  | succ n ih =>
    by_cases e : k = n
    · subst e
      have hm := bkN_mono (l := l) k (fun i hi => h i (by omega))
      unfold bkN
      rw [if_neg (fun q => h1 q.1), if_pos ⟨h2, h3⟩]; omega
    · have h4 := ih (fun i hi => h i (by omega)) (by omega)
      have h5 := h n (by omega)
      unfold bkN
      split
      · rename_i q; rw [if_pos ⟨h5 q.1, q.2⟩]; omega
      · omega
theorem cellP_eq {c : Cfg} {p i : Int} (h : 0 ≤ i ∧ i < c.cells) : c.cellP p i = c.cA + p + i * 3 := by
  unfold Cfg.cellP pAt; rw [if_pos h]
theorem cellP_ok {c : Cfg} {p i : Int} (hp : 0 ≤ p) (hA : 5 ≤ c.cA) (h : 0 ≤ c.cellP p i) : 0 ≤ i ∧ i < c.cells := by
  unfold Cfg.cellP pAt at h
  split at h
  · assumption
  · omega
/-- What stays true of the words. -/
structure MkW (c : Cfg) (l ws : List Int) : Prop where
  len : ws.length = l.length
  low : ∀ k : Int, k ≠ 2 → (∀ i, 0 ≤ i → i < c.cells → k ≠ c.cellP 2 i) → wAt ws k = wAt l k
  col : ∀ i, 0 ≤ i → i < c.cells → wAt ws (c.cellP 2 i) = wAt l (c.cellP 2 i) ∨ (wAt l (c.cellP 2 i) = 0 ∧ wAt ws (c.cellP 2 i) = 1) ∨ ((wAt l (c.cellP 2 i) = 0 ∨ wAt l (c.cellP 2 i) = 1) ∧ wAt ws (c.cellP 2 i) = 2)
  nw : ∀ i, 0 ≤ i → i < c.cells → wAt ws (c.cellP 2 i) = 2 → wAt l (c.cellP 2 i) ≠ 2 → NotW c ws (wAt l (c.cellP 0 i)) ∧ NotW c ws (wAt l (c.cellP 1 i))
theorem MkW.car {c : Cfg} (hA : 5 ≤ c.cA) {l ws : List Int} (h : MkW c l ws) (p i : Int) (hp : p = 0 ∨ p = 1) (h0 : 0 ≤ i) (h1 : i < c.cells) : wAt ws (c.cellP p i) = wAt l (c.cellP p i) := by
  apply h.low
  · rw [cellP_eq ⟨h0, h1⟩]; omega
  · intro j j0 j1
    rw [cellP_eq ⟨h0, h1⟩, cellP_eq ⟨j0, j1⟩]; omega
/-- Words of which one cell's colour went from white to grey, or from grey to black. -/
theorem MkW.shade {c : Cfg} (hR : c.Right) {l ws : List Int} (hl : (l.length : Int) = c.words) (h : MkW c l ws) (u : Int) : MkW c l ((aCas (c.fieldP u 2) 0 1).ws ws) ∧ (isCell u = true → NotW c ((aCas (c.fieldP u 2) 0 1).ws ws) u) ∧ (∀ v, NotW c ws v → NotW c ((aCas (c.fieldP u 2) 0 1).ws ws) v) ∧ (∀ k, wAt ws k ≠ 0 → wAt ((aCas (c.fieldP u 2) 0 1).ws ws) k = wAt ws k) ∧ (∀ k, wAt ((aCas (c.fieldP u 2) 0 1).ws ws) k = 2 → wAt ws k = 2) ∧ wAt ((aCas (c.fieldP u 2) 0 1).ws ws) 2 = wAt ws 2 := by
  have hA := cA_lo hR
  have hlw := h.len
  have hmono : ∀ k, wAt ws k ≠ 0 → wAt ((aCas (c.fieldP u 2) 0 1).ws ws) k = wAt ws k := by
    intro k hk
    rw [cas01_ws]
    split
    · rename_i e; obtain ⟨rfl, _, _, e⟩ := e; exact absurd e hk
    · rfl
  have hnw : ∀ v, NotW c ws v → NotW c ((aCas (c.fieldP u 2) 0 1).ws ws) v := by
    intro v hv h0
    rw [hmono _ (hv h0)]; exact hv h0
  have h2 : ∀ k, wAt ((aCas (c.fieldP u 2) 0 1).ws ws) k = 2 → wAt ws k = 2 := by
    intro k hk
    rw [cas01_ws] at hk
    split at hk
    · omega
    · exact hk
  by_cases hu : isCell u = true
  · rw [fieldP_of hu 2 (by omega)] at *
    refine ⟨⟨?_, ?_, ?_, ?_⟩, ?_, hnw, hmono, h2, ?_⟩
    · rw [Acc.ws_len]; exact h.len
    · intro k hk hn
      rw [cas01_ws]
      split
      · rename_i e
        obtain ⟨e1, e2, _⟩ := e
        have := cellP_ok (by omega) (by omega) e2
        exact absurd e1 (hn _ this.1 this.2)
      · exact h.low k hk hn
    · intro i h0 h1
      rw [cas01_ws]
      split
      · rename_i e
        obtain ⟨e1, e2, e3, e4⟩ := e
        rw [← e1] at e4
        rcases h.col i h0 h1 with q | q | q
        · right; left; exact ⟨by rw [← q]; exact e4, rfl⟩
        · omega
        · omega
      · exact h.col i h0 h1
    · intro i h0 h1 e1 e2
      have := h.nw i h0 h1 (h2 _ e1) e2
      exact ⟨hnw _ this.1, hnw _ this.2⟩
    · intro _ h0
      rw [cas01_ws]
      split
      · omega
      · rename_i e
        intro hz
        apply e
        have := cellP_lt hR 2 (cellN u) (by omega)
        exact ⟨rfl, h0, by rw [hlw, hl]; exact this, hz⟩
    · rw [cas01_ws, if_neg]
      rintro ⟨e1, e2, _⟩
      have := cellP_ok (by omega) (by omega) e2
      rw [cellP_eq this] at e1; omega
  · have hu2 : isCell u = false := by simpa using hu
    have he : (aCas (c.fieldP u 2) 0 1).ws ws = ws := by
      have : c.fieldP u 2 = -1 := by unfold Cfg.fieldP; rw [if_neg (fun q => hu q.1)]
      rw [this]
      unfold Acc.ws
      rw [if_neg (by simp [Acc.ok, aCas])]
    rw [he]
    exact ⟨h, fun q => absurd q hu, fun v hv => hv, fun _ _ => rfl, fun _ q => q, rfl⟩
theorem MkW.black {c : Cfg} (hR : c.Right) {l ws : List Int} (hl : (l.length : Int) = c.words) (h : MkW c l ws) (i : Int) (h0 : 0 ≤ i) (h1 : i < c.cells) (hg : wAt ws (c.cellP 2 i) = 1) (na : NotW c ws (wAt l (c.cellP 0 i))) (nb : NotW c ws (wAt l (c.cellP 1 i))) :
    MkW c l ((aStore (c.cellP 2 i) 2).ws ws) ∧ bkN c l ws c.cells.toNat + 1 ≤ bkN c l ((aStore (c.cellP 2 i) 2).ws ws) c.cells.toNat ∧ wAt ((aStore (c.cellP 2 i) 2).ws ws) 2 = wAt ws 2 := by
  have hA := cA_lo hR
  have hlw := h.len
  have hb : 0 ≤ c.cellP 2 i ∧ c.cellP 2 i < ws.length := by
    have := cellP_lt hR 2 i (by omega)
    rw [hlw, hl]
    refine ⟨?_, this⟩
    rw [cellP_eq ⟨h0, h1⟩]; omega
  rw [aStore_wsM _ _ _ hb]
  have hset : ∀ k, wAt (ws.set (c.cellP 2 i).toNat 2) k = if k = c.cellP 2 i then 2 else wAt ws k := fun k => wAt_set hb
  have hl1 : wAt l (c.cellP 2 i) = 0 ∨ wAt l (c.cellP 2 i) = 1 := by
    rcases h.col i h0 h1 with q | q | q
    · omega
    · omega
    · omega
  have hnw : ∀ v, NotW c ws v → NotW c (ws.set (c.cellP 2 i).toNat 2) v := by
    intro v hv hh
    rw [hset]
    split
    · omega
    · exact hv hh
  refine ⟨⟨?_, ?_, ?_, ?_⟩, ?_, ?_⟩
  · rw [List.length_set]; exact hlw
  · intro k hk hn
    rw [hset, if_neg (hn i h0 h1)]
    exact h.low k hk hn
  · intro j j0 j1
    rw [hset]
    split
    · rename_i e; rw [e]; exact .inr (.inr ⟨hl1, rfl⟩)
    · exact h.col j j0 j1
  · intro j j0 j1 e1 e2
    rw [hset] at e1
    split at e1
    · rename_i e
      rw [cellP_eq ⟨j0, j1⟩, cellP_eq ⟨h0, h1⟩] at e
      obtain rfl : j = i := by omega
      exact ⟨hnw _ na, hnw _ nb⟩
    · have := h.nw j j0 j1 e1 e2
      exact ⟨hnw _ this.1, hnw _ this.2⟩
  · obtain ⟨k, rfl⟩ : ∃ k : Nat, i = k := ⟨i.toNat, by omega⟩
    apply bkN_more _ _ k (by omega) (by omega) (by rw [hset, if_pos rfl]) (by omega)
    intro j hj e
    rw [hset]
    split
    · rfl
    · exact e
  · rw [hset, if_neg]
    rw [cellP_eq ⟨h0, h1⟩]; omega

/-- How the collector stands behind n steps, in the pass after q whole ones (p are counted). -/
inductive MkAt (c : Cfg) (l : List Int) (n p : Nat) (s : HS) (x : ColV) : Prop where
  | three (q : Nat) (i : Int) (f : Bool) (hn : (n : Int) ≤ q * (6 * c.cells + 1)) (hp : p = q) (hq : q ≤ bkN c l s.ws c.cells.toNat) (hi : 0 ≤ i ∧ i ≤ c.cells) (hc : s.c = c) (hw : MkW c l s.ws) (hx : x = ⟨3, 0, i, 0, 0, 0, f, 0, 0⟩)
  | four (q i : Nat) (f : Bool) (hi : (i : Int) < c.cells) (hn : (n : Int) ≤ q * (6 * c.cells + 1) + 1 + 6 * i) (hp : p = q + 1) (hq : q + (if f = true then 1 else 0) ≤ bkN c l s.ws c.cells.toNat) (hc : s.c = c) (hw : MkW c l s.ws) (hd : wAt s.ws 2 = 0) (hf : f = false → ∀ j : Nat, j < i → wAt s.ws (c.cellP 2 j) ≠ 1) (hx : x = ⟨4, 0, i, 0, 0, 0, f, 0, 0⟩)
  | five (q i : Nat) (f : Bool) (hi : (i : Int) < c.cells) (hn : (n : Int) ≤ q * (6 * c.cells + 1) + 2 + 6 * i) (hp : p = q + 1) (hq : q ≤ bkN c l s.ws c.cells.toNat) (hc : s.c = c) (hw : MkW c l s.ws) (hd : wAt s.ws 2 = 0) (hg : wAt s.ws (c.cellP 2 i) = 1) (hx : x = ⟨5, 0, i, 0, 0, 0, f, 0, 0⟩)
  | six (q i : Nat) (f : Bool) (hi : (i : Int) < c.cells) (hn : (n : Int) ≤ q * (6 * c.cells + 1) + 3 + 6 * i) (hp : p = q + 1) (hq : q ≤ bkN c l s.ws c.cells.toNat) (hc : s.c = c) (hw : MkW c l s.ws) (hd : wAt s.ws 2 = 0) (hg : wAt s.ws (c.cellP 2 i) = 1) (ha : isCell (wAt l (c.cellP 0 i)) = true) (hx : x = ⟨6, 0, i, 0, wAt l (c.cellP 0 i), 0, f, 0, 0⟩)
  | seven (q i : Nat) (f : Bool) (hi : (i : Int) < c.cells) (hn : (n : Int) ≤ q * (6 * c.cells + 1) + 4 + 6 * i) (hp : p = q + 1) (hq : q ≤ bkN c l s.ws c.cells.toNat) (hc : s.c = c) (hw : MkW c l s.ws) (hd : wAt s.ws 2 = 0) (hg : wAt s.ws (c.cellP 2 i) = 1) (na : NotW c s.ws (wAt l (c.cellP 0 i))) (hx : x = ⟨7, 0, i, 0, wAt l (c.cellP 0 i), 0, f, 0, 0⟩)
  | eight (q i : Nat) (f : Bool) (hi : (i : Int) < c.cells) (hn : (n : Int) ≤ q * (6 * c.cells + 1) + 5 + 6 * i) (hp : p = q + 1) (hq : q ≤ bkN c l s.ws c.cells.toNat) (hc : s.c = c) (hw : MkW c l s.ws) (hd : wAt s.ws 2 = 0) (hg : wAt s.ws (c.cellP 2 i) = 1) (na : NotW c s.ws (wAt l (c.cellP 0 i))) (ha : isCell (wAt l (c.cellP 1 i)) = true) (hx : x = ⟨8, 0, i, 0, wAt l (c.cellP 1 i), 0, f, 0, 0⟩)
  | nine (q i : Nat) (f : Bool) (hi : (i : Int) < c.cells) (hn : (n : Int) ≤ q * (6 * c.cells + 1) + 6 + 6 * i) (hp : p = q + 1) (hq : q ≤ bkN c l s.ws c.cells.toNat) (hc : s.c = c) (hw : MkW c l s.ws) (hd : wAt s.ws 2 = 0) (hg : wAt s.ws (c.cellP 2 i) = 1) (na : NotW c s.ws (wAt l (c.cellP 0 i))) (nb : NotW c s.ws (wAt l (c.cellP 1 i))) (hx : x = ⟨9, 0, i, 0, wAt l (c.cellP 1 i), 0, f, 0, 0⟩)
  | over (hn : (n : Int) ≤ (c.cells + 1) * (6 * c.cells + 1)) (hp : (p : Int) ≤ c.cells + 1) (hc : s.c = c) (hw : MkW c l s.ws) (hd : wAt s.ws 2 = 0) (hg : ∀ i, 0 ≤ i → i < c.cells → wAt s.ws (c.cellP 2 i) ≠ 1) (hx : x = ⟨10, 0, c.cells, 0, 0, 0, false, 0, 0⟩)
theorem MkAt.cfg {c : Cfg} {l : List Int} {n p : Nat} {s : HS} {x : ColV} (h : MkAt c l n p s x) : s.c = c := by cases h <;> assumption
theorem MkAt.first {c : Cfg} (hR : c.Right) (l : List Int) {s : HS} (hc : s.c = c) (hw : s.ws = l) : MkAt c l 0 0 s ⟨3, 0, 0, 0, 0, 0, false, 0, 0⟩ := by
  have := hR.c0
  refine .three 0 0 false (by simp) rfl (by omega) (by omega) hc ?_ rfl
  rw [hw]
  exact ⟨rfl, fun _ _ _ => rfl, fun _ _ _ => .inl rfl, fun i _ _ e1 e2 => absurd e1 e2⟩
theorem q_le {q : Nat} {c : Int} (h : (q : Int) ≤ c) (h0 : 0 ≤ c) : (q : Int) * (6 * c + 1) ≤ c * (6 * c + 1) ∧ (c + 1) * (6 * c + 1) = c * (6 * c + 1) + 6 * c + 1 :=
  ⟨Int.mul_le_mul_of_nonneg_right h (by omega), by rw [Int.add_mul]; omega⟩
/-- The next cell of the pass. -/
theorem MkAt.next {c : Cfg} (hR : c.Right) {l : List Int} {n q i : Nat} {f : Bool} {s : HS} (hi : (i : Int) < c.cells) (hn : (n : Int) ≤ q * (6 * c.cells + 1) + 1 + 6 * (i + 1)) (hq : q + (if f = true then 1 else 0) ≤ bkN c l s.ws c.cells.toNat) (hc : s.c = c) (hw : MkW c l s.ws) (hd : wAt s.ws 2 = 0) (hf : f = false → ∀ j : Nat, j < i + 1 → wAt s.ws (c.cellP 2 j) ≠ 1) (ln : Int) :
    MkAt c l n (q + 1) s (passNext c ⟨ln, 0, i, 0, 0, 0, f, 0, 0⟩) := by
  have hb := bkN_le c l s.ws c.cells.toNat
  have hc0 := hR.c0
  unfold passNext
  simp only
  by_cases h1 : (i : Int) + 1 < c.cells
  · rw [if_pos h1]
    exact .four q (i + 1) f (by omega) (by omega) rfl hq hc hw hd hf rfl
  · rw [if_neg h1]
    have hic : (i : Int) + 1 = c.cells := by omega
    cases f with
    | true =>
      simp only [if_true] at hq ⊢
      refine .three (q + 1) ((i : Int) + 1) true ?_ rfl (by omega) (by omega) hc hw rfl
      rw [show ((q + 1 : Nat) : Int) = (q : Int) + 1 by omega, Int.add_mul]; omega
    | false =>
      simp only [Bool.false_eq_true, if_false] at hq ⊢
      obtain ⟨b1, b2⟩ := q_le (q := q) (c := c.cells) (by omega) (by omega)
      refine .over (by omega) (by omega) hc hw hd ?_ (by rw [hic])
      intro j j0 j1
      have := hf rfl j.toNat (by omega)
      rwa [show ((j.toNat : Nat) : Int) = j by omega] at this
theorem MkAt.step {c : Cfg} (hR : c.Right) {l : List Int} (hl : (l.length : Int) = c.words) {n p : Nat} {s : HS} {x : ColV} (h : MkAt c l n p s x) (hx : x.line ≠ 10) :
    (passM s x).is = true ∧ MkAt c l (n + 1) (if x.line = 3 then p + 1 else p) (passM s x).s (passM s x).x := by
  have hA := cA_lo hR
  have hc0 := hR.c0
  cases h with
  | three q i f hn hp hq hi hc hw e =>
    subst e; subst hp
    obtain ⟨c', ws, acc⟩ := s
    simp only at hc hw hq
    subst hc
    refine ⟨rfl, ?_⟩
    simp only [if_true]
    unfold passM
    simp only [if_true]
    have hlw := hw.len
    have hcw := cA_words c'
    have e2 : (aStore 2 0).ws ws = ws.set 2 0 := aStore_wsM ws 2 0 (by omega)
    have hset : ∀ k, wAt (ws.set 2 0) k = if k = 2 then 0 else wAt ws k := fun k => by rw [show (2 : Nat) = (2 : Int).toNat from rfl, wAt_set (by omega)]
    have hcol : ∀ i, 0 ≤ i → i < c'.cells → wAt (ws.set 2 0) (c'.cellP 2 i) = wAt ws (c'.cellP 2 i) := by
      intro i h0 h1
      rw [hset, if_neg]
      rw [cellP_eq ⟨h0, h1⟩]; omega
    have hnw : ∀ v, NotW c' ws v → NotW c' (ws.set 2 0) v := by
      intro v hv h0
      have := cellP_ok (by omega) (by omega) h0
      rw [hcol _ this.1 this.2]; exact hv h0
    refine .four p 0 false (by omega) (by omega) rfl ?_ rfl ?_ ?_ (fun _ j hj => by omega) rfl
    · show p + 0 ≤ bkN c' l ((aStore 2 0).ws ws) c'.cells.toNat
      rw [e2]
      refine Nat.le_trans hq (bkN_mono _ ?_)
      intro j hj e
      rw [hcol _ (by omega) (by omega)]; exact e
    · show MkW c' l ((aStore 2 0).ws ws)
      rw [e2]
      refine ⟨by rw [List.length_set]; exact hlw, ?_, ?_, ?_⟩
      · intro k hk hn
        rw [hset, if_neg hk]; exact hw.low k hk hn
      · intro j h0 h1
        rw [hcol _ h0 h1]; exact hw.col j h0 h1
      · intro j h0 h1 e1 e2
        rw [hcol _ h0 h1] at e1
        have := hw.nw j h0 h1 e1 e2
        exact ⟨hnw _ this.1, hnw _ this.2⟩
    · show wAt ((aStore 2 0).ws ws) 2 = 0
      rw [e2, hset, if_pos rfl]
  | four q i f hi hn hp hq hc hw hd hf e =>
    subst e; subst hp
    obtain ⟨c', ws, acc⟩ := s
    simp only at hc hw hq hd hf
    subst hc
    refine ⟨by unfold passM; rfl, ?_⟩
    unfold passM
    simp only [show ¬ (4 : Int) = 3 by omega, if_false, if_true]
    split
    · rename_i hg
      exact .five q i f hi (by omega) rfl (by show q ≤ bkN c' l ((aLoad _).ws ws) _; rw [aLoad_ws0]; split at hq <;> omega) rfl (by show MkW c' l ((aLoad _).ws ws); rw [aLoad_ws0]; exact hw) (by show wAt ((aLoad _).ws ws) 2 = 0; rw [aLoad_ws0]; exact hd) (by show wAt ((aLoad _).ws ws) _ = 1; rw [aLoad_ws0]; exact hg) rfl
    · rename_i hg
      refine MkAt.next hR hi (by omega) ?_ rfl ?_ ?_ ?_ 4
      · show _ ≤ bkN c' l ((aLoad _).ws ws) _
        rw [aLoad_ws0]; exact hq
      · show MkW c' l ((aLoad _).ws ws)
        rw [aLoad_ws0]; exact hw
      · show wAt ((aLoad _).ws ws) 2 = 0
        rw [aLoad_ws0]; exact hd
      · intro hff j hj
        show wAt ((aLoad _).ws ws) _ ≠ 1
        rw [aLoad_ws0]
        by_cases e : j = i
        · subst e; exact hg
        · exact hf hff j (by omega)
  | five q i f hi hn hp hq hc hw hd hg e =>
    subst e; subst hp
    obtain ⟨c', ws, acc⟩ := s
    simp only at hc hw hq hd hg
    subst hc
    refine ⟨by unfold passM; rfl, ?_⟩
    unfold passM
    simp only [show ¬ (5 : Int) = 3 by omega, show ¬ (5 : Int) = 4 by omega, if_false, if_true]
    have hcar := hw.car (by omega) 0 i (.inl rfl) (by omega) hi
    rw [hcar]
    by_cases ha : isCell (wAt l (c'.cellP 0 i)) = true
    · rw [if_pos ha]
      exact .six q i f hi (by omega) rfl (by show _ ≤ bkN c' l ((aLoad _).ws ws) _; rw [aLoad_ws0]; exact hq) rfl (by show MkW c' l ((aLoad _).ws ws); rw [aLoad_ws0]; exact hw) (by show wAt ((aLoad _).ws ws) 2 = 0; rw [aLoad_ws0]; exact hd) (by show wAt ((aLoad _).ws ws) _ = 1; rw [aLoad_ws0]; exact hg) ha rfl
    · rw [if_neg ha]
      refine .seven q i f hi (by omega) rfl (by show _ ≤ bkN c' l ((aLoad _).ws ws) _; rw [aLoad_ws0]; exact hq) rfl (by show MkW c' l ((aLoad _).ws ws); rw [aLoad_ws0]; exact hw) (by show wAt ((aLoad _).ws ws) 2 = 0; rw [aLoad_ws0]; exact hd) (by show wAt ((aLoad _).ws ws) _ = 1; rw [aLoad_ws0]; exact hg) ?_ rfl
      intro h0
      rw [cellN_none (by simpa using ha)] at h0
      have := cellP_ok (by omega) (by omega) h0
      omega
  | six q i f hi hn hp hq hc hw hd hg ha e =>
    subst e; subst hp
    obtain ⟨c', ws, acc⟩ := s
    simp only at hc hw hq hd hg
    subst hc
    refine ⟨by unfold passM; rfl, ?_⟩
    unfold passM
    simp only [show ¬ (6 : Int) = 3 by omega, show ¬ (6 : Int) = 4 by omega, show ¬ (6 : Int) = 5 by omega, if_false, if_true]
    obtain ⟨h1, h2, h3, h4, h5, h6⟩ := hw.shade hR hl (wAt l (c'.cellP 0 i))
    exact .seven q i f hi (by omega) rfl (Nat.le_trans hq (bkN_mono _ (fun j hj e => (h4 _ (by rw [e]; omega)).trans e))) rfl h1 (h6.trans hd) ((h4 (c'.cellP 2 i) (by omega)).trans hg) (h2 ha) rfl
  | seven q i f hi hn hp hq hc hw hd hg na e =>
    subst e; subst hp
    obtain ⟨c', ws, acc⟩ := s
    simp only at hc hw hq hd hg na
    subst hc
    refine ⟨by unfold passM; rfl, ?_⟩
    unfold passM
    simp only [show ¬ (7 : Int) = 3 by omega, show ¬ (7 : Int) = 4 by omega, show ¬ (7 : Int) = 5 by omega, show ¬ (7 : Int) = 6 by omega, if_false, if_true]
    have hcar := hw.car (by omega) 1 i (.inr rfl) (by omega) hi
    rw [hcar]
    have na2 : NotW c' ((aLoad (c'.cellP 1 i)).ws ws) (wAt l (c'.cellP 0 i)) := by rw [aLoad_ws0]; exact na
    by_cases ha : isCell (wAt l (c'.cellP 1 i)) = true
    · rw [if_pos ha]
      exact .eight q i f hi (by omega) rfl (by show _ ≤ bkN c' l ((aLoad _).ws ws) _; rw [aLoad_ws0]; exact hq) rfl (by show MkW c' l ((aLoad _).ws ws); rw [aLoad_ws0]; exact hw) (by show wAt ((aLoad _).ws ws) 2 = 0; rw [aLoad_ws0]; exact hd) (by show wAt ((aLoad _).ws ws) _ = 1; rw [aLoad_ws0]; exact hg) na2 ha rfl
    · rw [if_neg ha]
      refine .nine q i f hi (by omega) rfl (by show _ ≤ bkN c' l ((aLoad _).ws ws) _; rw [aLoad_ws0]; exact hq) rfl (by show MkW c' l ((aLoad _).ws ws); rw [aLoad_ws0]; exact hw) (by show wAt ((aLoad _).ws ws) 2 = 0; rw [aLoad_ws0]; exact hd) (by show wAt ((aLoad _).ws ws) _ = 1; rw [aLoad_ws0]; exact hg) na2 ?_ rfl
      intro h0
      rw [cellN_none (by simpa using ha)] at h0
      have := cellP_ok (by omega) (by omega) h0
      omega
  | eight q i f hi hn hp hq hc hw hd hg na ha e =>
    subst e; subst hp
    obtain ⟨c', ws, acc⟩ := s
    simp only at hc hw hq hd hg na
    subst hc
    refine ⟨by unfold passM; rfl, ?_⟩
    unfold passM
    simp only [show ¬ (8 : Int) = 3 by omega, show ¬ (8 : Int) = 4 by omega, show ¬ (8 : Int) = 5 by omega, show ¬ (8 : Int) = 6 by omega, show ¬ (8 : Int) = 7 by omega, if_false, if_true]
    obtain ⟨h1, h2, h3, h4, h5, h6⟩ := hw.shade hR hl (wAt l (c'.cellP 1 i))
    exact .nine q i f hi (by omega) rfl (Nat.le_trans hq (bkN_mono _ (fun j hj e => (h4 _ (by rw [e]; omega)).trans e))) rfl h1 (h6.trans hd) ((h4 (c'.cellP 2 i) (by omega)).trans hg) (h3 _ na) (h2 ha) rfl
  | nine q i f hi hn hp hq hc hw hd hg na nb e =>
    subst e; subst hp
    obtain ⟨c', ws, acc⟩ := s
    simp only at hc hw hq hd hg na nb
    subst hc
    refine ⟨by unfold passM; rfl, ?_⟩
    unfold passM
    simp only [show ¬ (9 : Int) = 3 by omega, show ¬ (9 : Int) = 4 by omega, show ¬ (9 : Int) = 5 by omega, show ¬ (9 : Int) = 6 by omega, show ¬ (9 : Int) = 7 by omega, show ¬ (9 : Int) = 8 by omega, if_false, if_true]
    obtain ⟨h1, h2, h3⟩ := hw.black hR hl i (by omega) hi hg na nb
    exact MkAt.next hR (f := true) hi (by omega) (by simp only [if_true]; exact Nat.le_trans (by omega) h2) rfl h1 (h3.trans hd) (by simp) 9
  | over hn hp hc hw hd hg e => subst e; exact absurd rfl hx
theorem MkAt.wf {c : Cfg} (hR : c.Right) {l : List Int} (hl : ∀ k, 0 ≤ wAt l k ∧ wAt l k < 18446744073709551616) {n p : Nat} {s : HS} {x : ColV} (h : MkAt c l n p s x) : x.Wf ∧ x.Near := by
  have h1 := hR.c1
  have h0 := hR.c0
  cases h
  case six q i f hi _ _ _ _ _ _ _ _ e => subst e; have := hl (c.cellP 0 i); exact ⟨by constructor <;> simp only <;> omega, by constructor <;> simp only <;> omega⟩
  case seven q i f hi _ _ _ _ _ _ _ _ e => subst e; have := hl (c.cellP 0 i); exact ⟨by constructor <;> simp only <;> omega, by constructor <;> simp only <;> omega⟩
  case eight q i f hi _ _ _ _ _ _ _ _ _ e => subst e; have := hl (c.cellP 1 i); exact ⟨by constructor <;> simp only <;> omega, by constructor <;> simp only <;> omega⟩
  case nine q i f hi _ _ _ _ _ _ _ _ _ e => subst e; have := hl (c.cellP 1 i); exact ⟨by constructor <;> simp only <;> omega, by constructor <;> simp only <;> omega⟩
  all_goals (rename_i e; subst e; exact ⟨by constructor <;> simp only <;> omega, by constructor <;> simp only <;> omega⟩)
/-- The bounds that the law asks for. -/
theorem MkAt.bds {c : Cfg} (hR : c.Right) {l : List Int} {n p : Nat} {s : HS} {x : ColV} (h : MkAt c l n p s x) (hx : x.line ≠ 10) : (((if x.line = 3 then p + 1 else p : Nat) : Int) ≤ c.cells + 1) ∧ (n : Int) < (c.cells + 1) * (6 * c.cells + 1) := by
  have hb := bkN_le c l s.ws c.cells.toNat
  have hc0 := hR.c0
  cases h with
  | three q i f hn hp hq hi hc hw e => subst e; subst hp; obtain ⟨b1, b2⟩ := q_le (q := p) (c := c.cells) (by omega) (by omega); simp only [if_true]; omega
  | four q i f hi hn hp hq hc hw hd hf e => subst e; subst hp; obtain ⟨b1, b2⟩ := q_le (q := q) (c := c.cells) (by split at hq <;> omega) (by omega); simp only [show ¬ (4 : Int) = 3 by omega, if_false]; split at hq <;> omega
  | five q i f hi hn hp hq hc hw hd hg e => subst e; subst hp; obtain ⟨b1, b2⟩ := q_le (q := q) (c := c.cells) (by omega) (by omega); simp only [show ¬ (5 : Int) = 3 by omega, if_false]; omega
  | six q i f hi hn hp hq hc hw hd hg ha e => subst e; subst hp; obtain ⟨b1, b2⟩ := q_le (q := q) (c := c.cells) (by omega) (by omega); simp only [show ¬ (6 : Int) = 3 by omega, if_false]; omega
  | seven q i f hi hn hp hq hc hw hd hg na e => subst e; subst hp; obtain ⟨b1, b2⟩ := q_le (q := q) (c := c.cells) (by omega) (by omega); simp only [show ¬ (7 : Int) = 3 by omega, if_false]; omega
  | eight q i f hi hn hp hq hc hw hd hg na ha e => subst e; subst hp; obtain ⟨b1, b2⟩ := q_le (q := q) (c := c.cells) (by omega) (by omega); simp only [show ¬ (8 : Int) = 3 by omega, if_false]; omega
  | nine q i f hi hn hp hq hc hw hd hg na nb e => subst e; subst hp; obtain ⟨b1, b2⟩ := q_le (q := q) (c := c.cells) (by omega) (by omega); simp only [show ¬ (9 : Int) = 3 by omega, if_false]; omega
  | over hn hp hc hw hd hg e => subst e; exact absurd rfl hx
theorem MkAt.ends {c : Cfg} {l : List Int} {n p : Nat} {s : HS} {x : ColV} (h : MkAt c l n p s x) (hx : x.line = 10) : x = ⟨10, 0, c.cells, 0, 0, 0, false, 0, 0⟩ ∧ MkW c l s.ws ∧ wAt s.ws 2 = 0 ∧ ∀ i, 0 ≤ i → i < c.cells → wAt s.ws (c.cellP 2 i) ≠ 1 := by
  cases h
  case over hn hp hc hw hd hg e => exact ⟨e, hw, hd, hg⟩
  all_goals (rename_i e; subst e; simp at hx)

end Go.Proofs.Ytnhnbgkhbhgifaa
