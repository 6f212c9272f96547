/- Rounds in which the collector shuts and opens: what stays true. No program is named here. -/
import Derived.Test.YtolkgdchinaonaaBarOK
namespace Go.Proofs.Ytolkgdchinaonaa
open Go.RowKit
set_option linter.unusedVariables false
set_option linter.unusedSimpArgs false

theorem boOk_all {k f : Nat} (h0 : 1 ≤ k) (h1 : k ≤ 5) (hf : f ≤ k) : boOk k f = true := by
  have hm : f ∈ List.range (k + 1) := List.mem_range.2 (by omega)
  have h : k = 1 ∨ k = 2 ∨ k = 3 ∨ k = 4 ∨ k = 5 := by omega
  rcases h with rfl | rfl | rfl | rfl | rfl
  · exact List.all_eq_true.1 boOk1 f hm
  · exact List.all_eq_true.1 boOk2 f hm
  · exact List.all_eq_true.1 boOk3 f hm
  · exact List.all_eq_true.1 boOk4 f hm
  · exact List.all_eq_true.1 boOk5 f hm

/-- The words at first. -/
theorem wAt_first (c : Cfg) (hc : 0 ≤ c.words) (i : Int) : wAt (firstW c) i = if 0 ≤ i ∧ i < c.words then firstAt c (c.cells - 1) i else 0 := by
  have hl : ((firstW c).length : Int) = c.words := by unfold firstW firstTo; simp; omega
  unfold wAt
  rw [hl]
  split
  · rename_i h
    unfold firstW firstTo
    rw [List.getD_eq_getElem?_getD, List.getElem?_map, List.getElem?_range (by omega)]
    simp only [Option.map_some, Option.getD_some]
    rw [show ((i.toNat : Nat) : Int) = i by omega]
  · rfl
theorem firstW_len (k : Nat) : (firstW ⟨2, k, 1, 0⟩).length = 11 + 2 * k := by
  unfold firstW firstTo
  simp [Cfg.words, Cfg.roots]; omega
theorem gk_first (k : Nat) (s : HS) (hc : s.c = ⟨2, k, 1, 0⟩) (hw : s.ws = firstW ⟨2, k, 1, 0⟩) : GkAt k false s (List.replicate k (mv 0 0)) ∧ wAt s.ws 2 = 0 := by
  have hwd : (⟨2, k, 1, 0⟩ : Cfg).words = 11 + 2 * k := by simp [Cfg.words, Cfg.roots]; omega
  have hA : (⟨2, k, 1, 0⟩ : Cfg).cA = 5 + 2 * k := by simp [Cfg.cA]; omega
  have hat := wAt_first ⟨2, k, 1, 0⟩ (by omega)
  have hlow : ∀ i : Int, 1 ≤ i → i < 5 + 2 * k → wAt (firstW ⟨2, k, 1, 0⟩) i = 0 := by
    intro i h1 h2
    rw [hat, if_pos (by omega)]
    unfold firstAt
    rw [if_neg (by omega), if_neg (by rw [hA]; omega)]
  refine ⟨⟨hc, by rw [hw]; exact firstW_len k, by rw [hw, hlow 1 (by omega) (by omega)]; rfl, ?_, List.length_replicate, ?_⟩, by rw [hw, hlow 2 (by omega) (by omega)]⟩
  · intro i
    rw [hw, hat]
    split
    · unfold firstAt
      split
      · omega
      · split
        · rename_i h; simp only at h; omega
        · omega
    · omega
  · intro m x hx
    have hm : m < k := by
      rcases Nat.lt_or_ge m k with h | h
      · exact h
      · rw [List.getElem?_eq_none (by simpa using h)] at hx; cases hx
    rw [List.getElem?_replicate, if_pos hm] at hx
    cases hx
    exact ⟨0, .inr ⟨rfl, rfl⟩, by decide, by rw [hw, hlow _ (by omega) (by omega)]; decide⟩
theorem lineOf_rep (k j : Nat) : lineOf (List.replicate k (mv 0 0)) j = 0 := by
  unfold lineOf
  rw [List.getD_eq_getElem?_getD, List.getElem?_replicate]
  split <;> rfl
theorem bk_first (k : Nat) (hk : 1 ≤ k) (s : HS) (hc : s.c = ⟨2, k, 1, 0⟩) (hw : s.ws = firstW ⟨2, k, 1, 0⟩) : BkAt k s (List.replicate k (mv 0 0)) 10 0 0 := by
  obtain ⟨h1, h2⟩ := gk_first k s hc hw
  exact ⟨h1, h2, .inl rfl, by omega, by omega, fun _ => rfl, fun _ j hj => by omega, fun e => by omega, fun _ j _ => by rw [lineOf_rep]; omega, fun e => by simp [shutB] at e, fun e => by omega, fun e => by omega⟩
/-- What stays true of a state. -/
structure BoI (k n : Nat) (st : BoS) : Prop where
  bk : ∃ l m a, st.x = bc l m a ∧ BkAt k st.s st.A l m a
  gl : st.got.length = k
  gb : ∀ g, g ∈ st.got → 0 ≤ g ∧ g ≤ n
  sb : 0 ≤ st.shut ∧ st.shut ≤ n
theorem BoI.first {k : Nat} (hk : 1 ≤ k) : BoI k 0 (boFirst k) :=
  ⟨⟨10, 0, 0, rfl, bk_first k hk _ rfl rfl⟩, by simp [boFirst], by intro g hg; rw [show (boFirst k).got = List.replicate k 0 from rfl, List.mem_replicate] at hg; omega, by simp [boFirst]⟩
theorem BoI.col {k n : Nat} {st : BoS} (h : BoI k n st) : BoI k (n + 1) (boCol st) := by
  obtain ⟨⟨l, m, a, hx, hb⟩, h2, h3, h4⟩ := h
  obtain ⟨s, A, got, x, shut⟩ := st
  simp only at hx hb h2 h3 h4
  subst hx
  have hne : l ≠ 3 := by have := hb.line; omega
  unfold boCol
  by_cases hl : l = 20
  · subst hl
    rw [if_pos (.inr rfl)]
    obtain ⟨_, l', m', a', e, hb2⟩ := hb.anew.col (by omega)
    exact ⟨⟨l', m', a', e, hb2⟩, h2, fun g hg => by have := h3 g hg; omega, by simp only; omega⟩
  · rw [if_neg (fun e => e.elim hne hl)]
    obtain ⟨_, l', m', a', e, hb2⟩ := hb.col hl
    exact ⟨⟨l', m', a', e, hb2⟩, h2, fun g hg => by have := h3 g hg; omega, by simp only; omega⟩
theorem boMut_eq {k n m : Nat} {st : BoS} (h : BoI k n st) (hm : m < k) : ∃ ln q g, st.A[m]? = some (mv ln q) ∧ (q = 11 ∨ ln = 0) ∧ gkLine ln ∧ wAt st.s.ws (5 + m) % 4 = sy ln ∧ st.got[m]? = some g ∧ 0 ≤ g ∧ g ≤ n ∧ boMut m st = ⟨(gateM st.s m (mv (gkFrom ln) 11)).s, st.A.set m (gateM st.s m (mv (gkFrom ln) 11)).x, if ln = 24 then st.got.set m (g + 1) else st.got, st.x, st.shut⟩ := by
  obtain ⟨⟨l, mm, a, hx, hb⟩, h2, h3, h4⟩ := h
  obtain ⟨ln, q, e1, e2, e3, e4⟩ := hb.gk.at hm
  have hg : st.got[m]? = some (st.got.getD m 0) := by
    rw [List.getD_eq_getElem?_getD, List.getElem?_eq_getElem (by omega)]; rfl
  have hb2 := h3 _ (List.mem_of_getElem? hg)
  refine ⟨ln, q, _, e1, e2, e3, e4, hg, hb2.1, hb2.2, ?_⟩
  have hA : st.A.getD m (mv 0 0) = mv ln q := by rw [List.getD_eq_getElem?_getD, e1]; rfl
  unfold boMut
  simp only [hA]
  rcases e3 with rfl | rfl | rfl | rfl | rfl | rfl | rfl
  · rfl
  all_goals
    have hq : q = 11 := by omega
    subst hq
    rfl
theorem BoI.mut {k n m : Nat} {st : BoS} (h : BoI k n st) (hm : m < k) : BoI k (n + 1) (boMut m st) := by
  obtain ⟨ln, q, g, e1, e2, e3, e4, e5, e6, e7, e8⟩ := boMut_eq h hm
  obtain ⟨⟨l, mm, a, hx, hb⟩, h2, h3, h4⟩ := h
  obtain ⟨b1, b2, b3⟩ := hb.mut hm e1 e3 e4
  rw [e8, b2]
  refine ⟨⟨l, mm, a, hx, b3⟩, ?_, ?_, by simp only; omega⟩
  · simp only; split
    · rw [List.length_set]; exact h2
    · exact h2
  · simp only
    intro g' hg'
    split at hg'
    · rcases List.mem_or_eq_of_mem_set hg' with q | q
      · have := h3 _ q; omega
      · omega
    · have := h3 _ hg'; omega
theorem BoI.step {k n m : Nat} {st : BoS} (h : BoI k n st) (hm : m ≤ k) : BoI k (n + 1) (boStep k m st) := by
  unfold boStep
  split
  · exact h.col
  · exact h.mut (by omega)
theorem BoI.round {k n f r : Nat} {st : BoS} (h : BoI k n st) (i : Nat) : BoI k (n + i) (boRound k f r i st) := by
  induction i with
  | zero => exact h
  | succ i ih => exact ih.step (by have := Nat.mod_lt (i + r * f) (show 0 < k + 1 by omega); omega)
theorem BoI.runs {k f : Nat} (hk : 1 ≤ k) (r : Nat) : BoI k (r * (k + 1)) (boRuns k f r (boFirst k)) := by
  induction r with
  | zero => rw [Nat.zero_mul]; exact BoI.first hk
  | succ r ih => rw [Nat.succ_mul]; exact ih.round (k + 1)
/-- Of the first number only what is left of it by k + 1 counts. -/
theorem boRound_mod (k f r : Nat) (i : Nat) (st : BoS) : boRound k f r i st = boRound k (f % (k + 1)) r i st := by
  induction i with
  | zero => rfl
  | succ i ih =>
    unfold boRound
    rw [ih]
    congr 1
    rw [Nat.add_mod, Nat.mul_mod, Nat.add_mod i (r * (f % (k + 1))), Nat.mul_mod r (f % (k + 1)), Nat.mod_mod]
theorem boRuns_mod (k f : Nat) (r : Nat) (st : BoS) : boRuns k f r st = boRuns k (f % (k + 1)) r st := by
  induction r with
  | zero => rfl
  | succ r ih => unfold boRuns; rw [ih, boRound_mod]
/-- At its end. -/
theorem bo_ends {k : Nat} (f : Nat) (h0 : 1 ≤ k) (h1 : k ≤ 5) : (∀ g, g ∈ (boRuns k f (60 + 40 * k) (boFirst k)).got → 2 ≤ g) ∧ 1 ≤ (boRuns k f (60 + 40 * k) (boFirst k)).shut := by
  have := boOk_all h0 h1 (f := f % (k + 1)) (by have := Nat.mod_lt f (show 0 < k + 1 by omega); omega)
  unfold boOk at this
  rw [← boRuns_mod] at this
  rw [Bool.and_eq_true, List.all_eq_true, decide_eq_true_eq] at this
  exact ⟨fun g hg => by simpa using this.1 g hg, this.2⟩

end Go.Proofs.Ytolkgdchinaonaa
