/- The plain law of the roots: what going through them does to the words. No program is named here. -/
import Derived.Test.YtnhnbgkhbhgifaaMem
namespace Go.Proofs.Ytnhnbgkhbhgifaa
open Go.RowKit
set_option linter.unusedVariables false
set_option linter.unusedSimpArgs false

theorem cas01_ws (ws : List Int) (i : Int) (k : Int) : wAt ((aCas i 0 1).ws ws) k = if k = i ∧ 0 ≤ i ∧ i < ws.length ∧ wAt ws i = 0 then 1 else wAt ws k := by
  unfold Acc.ws
  by_cases hi : 0 ≤ i ∧ i < ws.length
  · have ho : (aCas i 0 1).ok ws = true := by simp [Acc.ok, aCas, hi]
    rw [if_pos ho]
    show wAt (ws.set i.toNat _) k = _
    rw [wAt_set hi]
    by_cases hk : k = i
    · subst hk
      by_cases hz : wAt ws k = 0 <;> simp [aCas, Acc.new, hz, hi]
    · simp [hk]
  · have ho : (aCas i 0 1).ok ws = false := by
      rw [Bool.eq_false_iff]; intro h; simp only [Acc.ok, aCas, Bool.and_eq_true, decide_eq_true_eq] at h; exact hi ⟨of_decide_eq_true h.1.2, of_decide_eq_true h.2⟩
    rw [ho, if_neg (by simp), if_neg (fun h => hi ⟨h.2.1, h.2.2.1⟩)]
theorem wAt_ext {a b : List Int} (hl : a.length = b.length) (h : ∀ k : Int, 0 ≤ k → k < a.length → wAt a k = wAt b k) : a = b := by
  apply List.ext_getElem hl
  intro n h1 h2
  have := h n (by omega) (by omega)
  unfold wAt at this
  rw [if_pos (by omega), if_pos (by omega)] at this
  simpa [List.getElem?_eq_getElem h1, List.getElem?_eq_getElem h2] using this
theorem fieldP_of {c : Cfg} {u : Int} (h : isCell u = true) (p : Int) (hp : 0 ≤ p ∧ p ≤ 2) : c.fieldP u p = c.cellP p (cellN u) := by
  have h2 : u % 2 = 1 ∧ u < 8192 := by simpa [isCell] using h
  unfold Cfg.fieldP cellN
  rw [if_pos ⟨h, hp.1, hp.2⟩, if_pos h2]
theorem cellN_none {u : Int} (h : isCell u = false) : cellN u = -1 := by
  unfold cellN
  rw [if_neg]
  intro h2
  rw [show isCell u = true by simp [isCell, h2]] at h
  cases h
theorem isCell_of {u : Int} (h : 0 ≤ cellN u) : isCell u = true := by
  unfold cellN at h
  split at h
  · rename_i h2; simp [isCell, h2]
  · omega
/-- The place of a cell's part lies behind all roots. -/
theorem cellP_ge (c : Cfg) (p i : Int) (hp : 0 ≤ p) : c.cellP p i = -1 ∨ c.cA ≤ c.cellP p i := by
  unfold Cfg.cellP pAt
  split
  · rename_i h; exact .inr (by omega)
  · exact .inl rfl
theorem rootP_in {c : Cfg} (hR : c.Right) (j : Int) (h0 : 0 ≤ j) (h1 : j < c.roots) : 0 ≤ c.rootP j ∧ c.rootP j < c.cA := by
  obtain ⟨a1, a2, a3, a4, a5, a6, a7, a8⟩ := hR
  have hm : 0 ≤ c.muts * c.regs := Int.mul_nonneg (by omega) (by omega)
  unfold Cfg.roots at h1
  unfold Cfg.rootP pAt Cfg.gA Cfg.cA
  split
  · omega
  · rw [if_pos (by omega)]; omega
theorem cellP_lt {c : Cfg} (hR : c.Right) (p i : Int) (hp : 0 ≤ p ∧ p ≤ 2) : c.cellP p i < c.words := by
  obtain ⟨a1, a2, a3, a4, a5, a6, a7, a8⟩ := hR
  have hm : 0 ≤ c.muts * c.regs := Int.mul_nonneg (by omega) (by omega)
  unfold Cfg.cellP pAt Cfg.words Cfg.roots Cfg.cA
  split <;> omega
theorem cA_words (c : Cfg) : c.words - 3 * c.cells = c.cA := by
  unfold Cfg.words Cfg.roots Cfg.cA; omega

/-- The words when the first j roots have been shaded. -/
def shRoots (c : Cfg) (l : List Int) : Nat → List Int
  | 0 => l
  | j + 1 => if isCell (wAt l (c.rootP j)) = true then (aCas (c.fieldP (wAt l (c.rootP j)) 2) 0 1).ws (shRoots c l j) else shRoots c l j
/-- In so many steps. -/
def shSteps (c : Cfg) (l : List Int) : Nat → Nat
  | 0 => 0
  | j + 1 => if isCell (wAt l (c.rootP j)) = true then shSteps c l j + 2 else shSteps c l j + 1
theorem shRoots_succ (c : Cfg) (l : List Int) (j : Nat) : shRoots c l (j + 1) = if isCell (wAt l (c.rootP j)) = true then (aCas (c.fieldP (wAt l (c.rootP j)) 2) 0 1).ws (shRoots c l j) else shRoots c l j := rfl
theorem shSteps_succ (c : Cfg) (l : List Int) (j : Nat) : shSteps c l (j + 1) = if isCell (wAt l (c.rootP j)) = true then shSteps c l j + 2 else shSteps c l j + 1 := rfl
theorem shRoots_len (c : Cfg) (l : List Int) (j : Nat) : (shRoots c l j).length = l.length := by
  induction j with
  | zero => rfl
  | succ j ih => rw [shRoots_succ]; split <;> simp [Acc.ws_len, ih]
theorem shSteps_le (c : Cfg) (l : List Int) (j : Nat) : j ≤ shSteps c l j ∧ shSteps c l j ≤ 2 * j := by
  induction j with
  | zero => simp [shSteps]
  | succ j ih => rw [shSteps_succ]; split <;> omega
theorem shSteps_mono (c : Cfg) (l : List Int) {i j : Nat} (h : i ≤ j) : shSteps c l i + (j - i) ≤ shSteps c l j := by
  induction j with
  | zero => have : i = 0 := by omega
            subst this; simp
  | succ j ih =>
    by_cases e : i = j + 1
    · subst e; simp
    · have := ih (by omega)
      rw [shSteps_succ]; split <;> omega
theorem shRoots_at (c : Cfg) (l : List Int) (j : Nat) (k : Int) :
    wAt (shRoots c l j) k = wAt l k ∨ (wAt l k = 0 ∧ wAt (shRoots c l j) k = 1 ∧ ∃ i, 0 ≤ i ∧ i < c.cells ∧ k = c.cA + 2 + i * 3) := by
  induction j with
  | zero => exact .inl rfl
  | succ j ih =>
    rw [shRoots_succ]
    split
    · rename_i h
      rw [cas01_ws]
      split
      · rename_i h2
        obtain ⟨h3, h4, h5, h6⟩ := h2
        right
        have hz : wAt l k = 0 := by
          rcases ih with e | ⟨e, e2, _⟩
          · rw [← e, h3]; exact h6
          · exact e
        refine ⟨hz, rfl, cellN (wAt l (c.rootP j)), ?_⟩
        rw [fieldP_of h 2 (by omega)] at h3 h4
        unfold Cfg.cellP pAt at h3 h4
        split at h3
        · rename_i h7; exact ⟨h7.1, h7.2, by omega⟩
        · rename_i h7; rw [if_neg h7] at h4; omega
      · exact ih
    · exact ih
theorem shRoots_low (c : Cfg) (l : List Int) (j : Nat) (k : Int) (h : k < c.cA) : wAt (shRoots c l j) k = wAt l k := by
  rcases shRoots_at c l j k with e | ⟨_, _, i, h1, _, h2⟩
  · exact e
  · omega
theorem shRoots_done {c : Cfg} (hR : c.Right) (l : List Int) (hl : (l.length : Int) = c.words) (j n : Nat) (hj : j < n) (h : 0 ≤ c.cellP 2 (cellN (wAt l (c.rootP j)))) :
    wAt (shRoots c l n) (c.cellP 2 (cellN (wAt l (c.rootP j)))) ≠ 0 := by
  have hc : isCell (wAt l (c.rootP j)) = true := by
    apply isCell_of
    unfold Cfg.cellP pAt at h
    split at h
    · rename_i h2; exact h2.1
    · omega
  have hlt : c.cellP 2 (cellN (wAt l (c.rootP j))) < (l.length : Int) := by
    rw [hl]
    unfold Cfg.cellP pAt at h ⊢
    split
    · rename_i h2; unfold Cfg.words Cfg.roots Cfg.cA; omega
    · rename_i h2; rw [if_neg h2] at h; omega
  induction n with
  | zero => omega
  | succ n ih =>
    rw [shRoots_succ]
    by_cases e : j = n
    · subst e
      rw [if_pos hc, cas01_ws, fieldP_of hc 2 (by omega)]
      split
      · omega
      · rename_i h2
        intro h3
        exact h2 ⟨rfl, h, by rw [shRoots_len]; exact hlt, h3⟩
    · have := ih (by omega)
      split
      · rw [cas01_ws]; split
        · omega
        · exact this
      · exact this
/-- Done once more nothing is changed. -/
theorem shRoots_again {c : Cfg} (hR : c.Right) (l : List Int) (hl : (l.length : Int) = c.words) (j n : Nat) (hj : j ≤ n) (hn : (n : Int) ≤ c.roots) : shRoots c (shRoots c l n) j = shRoots c l n ∧ shSteps c (shRoots c l n) j = shSteps c l j := by
  induction j with
  | zero => exact ⟨rfl, rfl⟩
  | succ j ih =>
    obtain ⟨i1, i2⟩ := ih (by omega)
    have hr : wAt (shRoots c l n) (c.rootP j) = wAt l (c.rootP j) := shRoots_low c l n _ (rootP_in hR j (by omega) (by omega)).2
    rw [shRoots_succ, shSteps_succ, shSteps_succ, hr, i1, i2]
    refine ⟨?_, rfl⟩
    split
    · rename_i hc
      apply wAt_ext (by rw [Acc.ws_len])
      intro k h1 h2
      rw [cas01_ws]
      split
      · rename_i h3
        obtain ⟨h4, h5, h6, h7⟩ := h3
        rw [fieldP_of hc 2 (by omega)] at h5 h7
        exact absurd h7 (shRoots_done hR l hl j n (by omega) h5)
      · rfl
    · rfl

/-- How the collector stands, and the words, behind n steps through the roots. -/
inductive RsAt (c : Cfg) (l : List Int) (n : Nat) (s : HS) (x : ColV) : Prop where
  | root (j : Nat) (hj : (j : Int) < c.roots) (hn : n = shSteps c l j) (hc : s.c = c) (hw : s.ws = shRoots c l j) (hx : x = ⟨1, j, 0, 0, 0, 0, false, 0, 0⟩)
  | shade (j : Nat) (hj : (j : Int) < c.roots) (hn : n = shSteps c l j + 1) (hc : s.c = c) (hw : s.ws = shRoots c l j) (hi : isCell (wAt l (c.rootP j)) = true) (hx : x = ⟨2, j, 0, 0, 0, wAt l (c.rootP j), false, 0, 0⟩)
  | over (j : Nat) (hj : (j : Int) = c.roots) (hn : n = shSteps c l j) (hc : s.c = c) (hw : s.ws = shRoots c l j) (hx : x = ⟨3, j, 0, 0, 0, 0, false, 0, 0⟩)
theorem aLoad_ws0 (i : Int) (ws : List Int) : (aLoad i).ws ws = ws := by
  unfold Acc.ws
  split
  · rename_i h
    have h2 : 0 ≤ i ∧ i < (ws.length : Int) := by simp only [aLoad, Acc.ok, Bool.and_eq_true, decide_eq_true_eq] at h; exact ⟨of_decide_eq_true h.1.2, of_decide_eq_true h.2⟩
    apply wAt_ext (by simp)
    intro k h3 h4
    show wAt (ws.set i.toNat _) k = _
    rw [wAt_set h2]
    split
    · rename_i e; subst e; simp [aLoad, Acc.new]
    · rfl
  · rfl
theorem RsAt.next_root {c : Cfg} {l : List Int} {s : HS} {j : Nat} (hj : (j : Int) < c.roots) (hc : s.c = c) (hw : s.ws = shRoots c l (j + 1)) (x : ColV) (hx : x = ⟨if ((j : Int) + 1) < c.roots then 1 else 3, (j : Int) + 1, 0, 0, 0, 0, false, 0, 0⟩) : RsAt c l (shSteps c l (j + 1)) s x := by
  by_cases h : ((j : Int) + 1) < c.roots
  · exact .root (j + 1) (by omega) rfl hc hw (by rw [hx, if_pos h]; rfl)
  · exact .over (j + 1) (by omega) rfl hc hw (by rw [hx, if_neg h]; rfl)
theorem RsAt.step {c : Cfg} (hR : c.Right) {l : List Int} {n : Nat} {s : HS} {x : ColV} (h : RsAt c l n s x) (hx : x.line = 1 ∨ x.line = 2) :
    (rsM s x).is = true ∧ RsAt c l (n + 1) (rsM s x).s (rsM s x).x := by
  cases h with
  | root j hj hn hc hw e =>
    subst e
    obtain ⟨c', ws, acc⟩ := s
    simp only at hc hw
    subst hc
    subst hw
    have hr : wAt (shRoots c' l j) (c'.rootP j) = wAt l (c'.rootP j) := shRoots_low c' l j _ (rootP_in hR j (by omega) hj).2
    unfold rsM
    simp only [if_true, hr]
    by_cases hi : isCell (wAt l (c'.rootP j)) = true
    · rw [if_pos hi]
      exact ⟨rfl, .shade j hj (by omega) rfl (aLoad_ws0 _ _) hi rfl⟩
    · rw [if_neg hi]
      refine ⟨rfl, ?_⟩
      have e : n + 1 = shSteps c' l (j + 1) := by rw [shSteps_succ]; rw [if_neg hi, hn]
      rw [e]
      exact RsAt.next_root hj rfl ((aLoad_ws0 _ _).trans (by rw [shRoots_succ, if_neg hi])) _ rfl
  | shade j hj hn hc hw hi e =>
    subst e
    obtain ⟨c', ws, acc⟩ := s
    simp only at hc hw
    subst hc
    subst hw
    unfold rsM
    simp only [if_true]
    rw [if_neg (by omega)]
    refine ⟨rfl, ?_⟩
    have e : n + 1 = shSteps c' l (j + 1) := by rw [shSteps_succ]; rw [if_pos hi, hn]
    rw [e]
    exact RsAt.next_root hj rfl (by rw [shRoots_succ, if_pos hi]; rfl) _ rfl
  | over j hj hn hc hw e => subst e; simp at hx
theorem RsAt.start {c : Cfg} (hR : c.Right) (l : List Int) {s : HS} (hc : s.c = c) (hw : s.ws = l) : RsAt c l 0 s ⟨1, 0, 0, 0, 0, 0, false, 0, 0⟩ :=
  .root 0 (by have := hR.g0; have := hR.m0; have := hR.r0; have : 0 ≤ c.muts * c.regs := Int.mul_nonneg (by omega) (by omega); unfold Cfg.roots; omega) rfl hc hw rfl
theorem RsAt.n_lt {c : Cfg} {l : List Int} {n : Nat} {s : HS} {x : ColV} (h : RsAt c l n s x) (hx : x.line = 1 ∨ x.line = 2) : (n : Int) < 2 * c.roots ∧ n < shSteps c l c.roots.toNat := by
  cases h with
  | root j hj hn hc hw e =>
    have := shSteps_le c l j
    have := shSteps_mono c l (i := j) (j := c.roots.toNat) (by omega)
    omega
  | shade j hj hn hc hw hi e =>
    have := shSteps_le c l j
    have := shSteps_mono c l (i := j + 1) (j := c.roots.toNat) (by omega)
    have e2 : shSteps c l (j + 1) = shSteps c l j + 2 := by rw [shSteps_succ, if_pos hi]
    omega
  | over j hj hn hc hw e => subst e; simp at hx
theorem RsAt.line {c : Cfg} {l : List Int} {n : Nat} {s : HS} {x : ColV} (h : RsAt c l n s x) : x.line = 1 ∨ x.line = 2 ∨ (x.line = 3 ∧ x.j = c.roots ∧ s.ws = shRoots c l c.roots.toNat ∧ n = shSteps c l c.roots.toNat) := by
  cases h with
  | root j hj hn hc hw e => subst e; exact .inl rfl
  | shade j hj hn hc hw hi e => subst e; exact .inr (.inl rfl)
  | over j hj hn hc hw e =>
    subst e
    have : c.roots.toNat = j := by omega
    exact .inr (.inr ⟨rfl, hj, by rw [this]; exact hw, by rw [this]; exact hn⟩)
theorem RsAt.cfg {c : Cfg} {l : List Int} {n : Nat} {s : HS} {x : ColV} (h : RsAt c l n s x) : s.c = c := by cases h <;> assumption
/-- The record stays within bounds. -/
theorem RsAt.wf {c : Cfg} (hR : c.Right) {l : List Int} (hl : ∀ k, 0 ≤ wAt l k ∧ wAt l k < 18446744073709551616) {n : Nat} {s : HS} {x : ColV} (h : RsAt c l n s x) : x.Wf ∧ x.Near := by
  have hb : c.roots ≤ 5000 := by
    obtain ⟨a1, a2, a3, a4, a5, a6, a7, a8⟩ := hR
    have : c.muts * c.regs ≤ 63 * 64 := Int.mul_le_mul (by omega) (by omega) (by omega) (by omega)
    unfold Cfg.roots; omega
  cases h with
  | root j hj hn hc hw e => subst e; exact ⟨by constructor <;> simp only <;> omega, by constructor <;> simp only <;> omega⟩
  | shade j hj hn hc hw hi e => subst e; have := hl (c.rootP j); exact ⟨by constructor <;> simp only <;> omega, by constructor <;> simp only <;> omega⟩
  | over j hj hn hc hw e => subst e; exact ⟨by constructor <;> simp only <;> omega, by constructor <;> simp only <;> omega⟩

theorem roots_bd {c : Cfg} (hR : c.Right) : 0 ≤ c.roots ∧ c.roots ≤ 5000 := by
  obtain ⟨a1, a2, a3, a4, a5, a6, a7, a8⟩ := hR
  have : c.muts * c.regs ≤ 63 * 64 := Int.mul_le_mul (by omega) (by omega) (by omega) (by omega)
  have : 0 ≤ c.muts * c.regs := Int.mul_nonneg (by omega) (by omega)
  unfold Cfg.roots; omega
theorem shRoots_bd {c : Cfg} {l : List Int} (hl : ∀ k, 0 ≤ wAt l k ∧ wAt l k < 18446744073709551616) (n : Nat) : ∀ k, 0 ≤ wAt (shRoots c l n) k ∧ wAt (shRoots c l n) k < 18446744073709551616 := by
  intro k
  rcases shRoots_at c l n k with h | ⟨_, h, _⟩
  · rw [h]; exact hl k
  · rw [h]; omega

end Go.Proofs.Ytnhnbgkhbhgifaa
