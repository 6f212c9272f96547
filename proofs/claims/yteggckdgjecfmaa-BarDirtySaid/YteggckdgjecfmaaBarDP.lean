/- The plain law of the bar with nobody about. No program is named here. -/
import Derived.Test.YteggckdgjecfmaaRootsP
import Derived.Test.YteggckdgjecfmaaPlace
namespace Go.Proofs.Yteggckdgjecfmaa
open Go.RowKit
set_option linter.unusedVariables false
set_option linter.unusedSimpArgs false

theorem aStore_ws1 (ws : List Int) (i x : Int) (hi : 0 ≤ i ∧ i < ws.length) : (aStore i x).ws ws = ws.set i.toNat x := by
  unfold Acc.ws
  rw [if_pos (by simp [Acc.ok, aStore, hi])]
  rfl
/-- Words whose first k ins have been made to say idle. -/
def idleTo (l : List Int) : Nat → List Int
  | 0 => l
  | k + 1 => (idleTo l k).set (5 + k) ((idleTo l k).getD (5 + k) 0 / 4 * 4)
theorem idleTo_len (l : List Int) (k : Nat) : (idleTo l k).length = l.length := by
  induction k with
  | zero => rfl
  | succ k ih => simp [idleTo, ih]
theorem idleTo_succ (l : List Int) (k : Nat) : idleTo l (k + 1) = (idleTo l k).set (5 + k) ((idleTo l k).getD (5 + k) 0 / 4 * 4) := rfl
theorem idleTo_bd {l : List Int} (hl : ∀ x, x ∈ l → 0 ≤ x ∧ x < 18446744073709551616) (k : Nat) : ∀ x, x ∈ idleTo l k → 0 ≤ x ∧ x < 18446744073709551616 := by
  induction k with
  | zero => exact hl
  | succ k ih =>
    intro x hx
    rw [idleTo_succ] at hx
    rcases List.mem_or_eq_of_mem_set hx with h | h
    · exact ih x h
    · subst h
      by_cases hk : 5 + k < (idleTo l k).length
      · have := ih _ (List.getElem_mem hk)
        rw [List.getD_eq_getElem?_getD, List.getElem?_eq_getElem hk]
        simp only [Option.getD_some]
        omega
      · rw [List.getD_eq_getElem?_getD, List.getElem?_eq_none (by omega)]
        simp
theorem idleTo_idle (l : List Int) (k i : Nat) (h : i < k) (hl : 5 + k ≤ l.length) : wAt (idleTo l k) (5 + i) % 4 = 0 := by
  induction k with
  | zero => omega
  | succ k ih =>
    rw [idleTo_succ, show 5 + k = ((5 + k : Nat) : Int).toNat by omega, wAt_set (by rw [idleTo_len]; omega)]
    split
    · omega
    · exact ih (by omega) (by omega)

/-- How the collector stands behind n steps with nobody about. -/
inductive BdAt (c : Cfg) (l : List Int) (n : Nat) (f : Nat) (s : HS) (x : ColV) : Prop where
  | look (i : Nat) (hi : (i : Int) < c.muts) (hn : n = i) (hf : f = 0) (hc : s.c = c) (hw : s.ws = l) (hx : x = ⟨10, 0, 0, i, 0, 0, false, 0, 0⟩)
  | shut (hn : (n : Int) = c.muts) (hf : f = 0) (hc : s.c = c) (hw : s.ws = l) (hx : x = ⟨11, 0, 0, 0, 0, 0, false, 0, 0⟩)
  | wait (i : Nat) (hi : (i : Int) < c.muts) (hn : (n : Int) = c.muts + 1 + i) (hf : f = 0) (hc : s.c = c) (hw : s.ws = l.set 1 1) (hx : x = ⟨12, 0, 0, i, 0, 0, false, 0, 0⟩)
  | see (hn : (n : Int) = 2 * c.muts + 1) (hf : f = 0) (hc : s.c = c) (hw : s.ws = l.set 1 1) (hx : x = ⟨13, 0, 0, 0, 0, 0, false, 0, 0⟩)
  | openF (hn : (n : Int) = 2 * c.muts + 2) (hz : wAt l 2 = 0) (hf : f = 1) (hc : s.c = c) (hw : s.ws = l.set 1 1) (hx : x = ⟨14, 0, 0, 0, 0, 0, false, 0, 0⟩)
  | openN (hn : (n : Int) = 2 * c.muts + 2) (hz : wAt l 2 ≠ 0) (hf : f = 0) (hc : s.c = c) (hw : s.ws = l.set 1 1) (hx : x = ⟨15, 0, 0, 0, 0, 0, false, 0, 0⟩)
  | overF (hn : (n : Int) = 2 * c.muts + 3) (hz : wAt l 2 = 0) (hf : f = 1) (hc : s.c = c) (hw : s.ws = l.set 1 0) (hx : x = ⟨20, 0, 0, 0, 0, 0, false, 0, 0⟩)
  | overN (hn : (n : Int) = 2 * c.muts + 3) (hz : wAt l 2 ≠ 0) (hf : f = 0) (hc : s.c = c) (hw : s.ws = l.set 1 0) (hx : x = ⟨3, 0, 0, 0, 0, 0, false, 0, 0⟩)
theorem BdAt.cfg {c : Cfg} {l : List Int} {n f : Nat} {s : HS} {x : ColV} (h : BdAt c l n f s x) : s.c = c := by cases h <;> assumption
theorem BdAt.wf {c : Cfg} (hR : c.Right) {l : List Int} {n f : Nat} {s : HS} {x : ColV} (h : BdAt c l n f s x) : x.Wf ∧ x.Near := by
  have h1 := hR.m1
  have h0 := hR.m0
  cases h <;> (rename_i e; subst e; exact ⟨by constructor <;> simp only <;> omega, by constructor <;> simp only <;> omega⟩)
theorem set_set (l : List Int) (x y : Int) : (l.set 1 x).set 1 y = l.set 1 y := by simp
theorem BdAt.step {c : Cfg} (hR : c.Right) {l : List Int} (hl : (l.length : Int) = c.words) (hid : ∀ i : Nat, (i : Int) < c.muts → wAt l (5 + i) % 4 = 0) {n f : Nat} {s : HS} {x : ColV} (h : BdAt c l n f s x) (hn : (n : Int) < 2 * c.muts + 3) :
    (barM s x).is = true ∧ BdAt c l (n + 1) (if (barM s x).flip = true then f + 1 else f) (barM s x).s (barM s x).x := by
  have hm0 := hR.m0
  have hpos := cA_bd hR
  have hcw := cA_words c
  have hlen : (5 : Int) < l.length := by have := hR.c0; omega
  have hinP : ∀ i : Nat, (i : Int) < c.muts → c.inP i = 5 + i := by intro i hi; unfold Cfg.inP pAt; rw [if_pos (by omega)]; omega
  cases h with
  | look i hi hn' hf hc hw e =>
    subst e; subst hf
    obtain ⟨c', ws, acc⟩ := s
    simp only at hc hw
    subst hc; subst hw
    have h4 := hid i hi
    unfold barM
    simp only [if_true, hinP i hi]
    rw [if_pos (.inl h4)]
    refine ⟨rfl, ?_⟩
    simp only [Bool.false_eq_true, if_false]
    unfold barPass
    by_cases h2 : c'.muts ≤ (i : Int) + 1
    · simp only [h2, if_true]
      exact .shut (by omega) rfl rfl (aLoad_ws0 _ _) rfl
    · simp only [h2, if_false]
      exact .look (i + 1) (by omega) (by omega) rfl rfl (aLoad_ws0 _ _) rfl
  | shut hn' hf hc hw e =>
    subst e; subst hf
    obtain ⟨c', ws, acc⟩ := s
    simp only at hc hw
    subst hc; subst hw
    unfold barM
    refine ⟨rfl, ?_⟩
    exact .wait 0 (by omega) (by omega) rfl rfl (aStore_ws1 ws 1 1 (by omega)) rfl
  | wait i hi hn' hf hc hw e =>
    subst e; subst hf
    obtain ⟨c', ws, acc⟩ := s
    simp only at hc hw
    subst hc; subst hw
    have h4 : wAt (l.set 1 1) (5 + i) % 4 = 0 := by
      rw [show (1 : Nat) = (1 : Int).toNat from rfl, wAt_set (by omega), if_neg (by omega)]; exact hid i hi
    unfold barM
    simp only [hinP i hi]
    rw [if_neg (by omega), if_neg (by omega), if_neg (by omega), if_pos trivial, if_pos (.inl h4)]
    refine ⟨rfl, ?_⟩
    simp only [Bool.false_eq_true, if_false]
    unfold barPass
    by_cases h2 : c'.muts ≤ (i : Int) + 1
    · simp only [h2, if_true]
      exact .see (by omega) rfl rfl (aLoad_ws0 _ _) rfl
    · simp only [h2, if_false]
      exact .wait (i + 1) (by omega) (by omega) rfl rfl (aLoad_ws0 _ _) rfl
  | see hn' hf hc hw e =>
    subst e; subst hf
    obtain ⟨c', ws, acc⟩ := s
    simp only at hc hw
    subst hc; subst hw
    have h4 : wAt (l.set 1 1) 2 = wAt l 2 := by rw [show (1 : Nat) = (1 : Int).toNat from rfl, wAt_set (by omega), if_neg (by omega)]
    unfold barM
    simp only [h4]
    rw [if_neg (by omega), if_neg (by omega), if_neg (by omega), if_neg (by omega), if_pos trivial]
    by_cases hz : wAt l 2 = 0
    · rw [if_pos hz]
      exact ⟨rfl, .openF (by omega) hz rfl rfl (aLoad_ws0 _ _) rfl⟩
    · rw [if_neg hz]
      exact ⟨rfl, .openN (by omega) hz rfl rfl (aLoad_ws0 _ _) rfl⟩
  | openF hn' hz hf hc hw e =>
    subst e; subst hf
    obtain ⟨c', ws, acc⟩ := s
    simp only at hc hw
    subst hc; subst hw
    unfold barM
    refine ⟨rfl, .overF (by omega) hz rfl rfl ((aStore_ws1 _ 1 0 (by simp; omega)).trans (set_set _ _ _)) rfl⟩
  | openN hn' hz hf hc hw e =>
    subst e; subst hf
    obtain ⟨c', ws, acc⟩ := s
    simp only at hc hw
    subst hc; subst hw
    unfold barM
    refine ⟨rfl, .overN (by omega) hz rfl rfl ((aStore_ws1 _ 1 0 (by simp; omega)).trans (set_set _ _ _)) rfl⟩
  | overF hn' => omega
  | overN hn' => omega
theorem BdAt.ends {c : Cfg} {l : List Int} {n f : Nat} {s : HS} {x : ColV} (h : BdAt c l n f s x) (hn : (n : Int) = 2 * c.muts + 3) (hm : 1 ≤ c.muts) :
    s.ws = l.set 1 0 ∧ ((wAt l 2 = 0 ∧ f = 1 ∧ x.line = 20 ∧ x.c = 0) ∨ (wAt l 2 ≠ 0 ∧ f = 0 ∧ x.line = 3)) := by
  cases h with
  | look i hi hn' => omega
  | shut hn' => omega
  | wait i hi hn' => omega
  | see hn' => omega
  | openF hn' => omega
  | openN hn' => omega
  | overF hn' hz hf hc hw e => subst e; exact ⟨hw, .inl ⟨hz, hf, rfl, rfl⟩⟩
  | overN hn' hz hf hc hw e => subst e; exact ⟨hw, .inr ⟨hz, hf, rfl⟩⟩
theorem BdAt.flips {c : Cfg} {l : List Int} {n f : Nat} {s : HS} {x : ColV} (h : BdAt c l n f s x) : f ≤ 1 := by cases h <;> omega

end Go.Proofs.Yteggckdgjecfmaa
