/- The plain law of a pass over a memory without a grey cell. No program is named here. -/
import Derived.Test.YtolkgdchinaonaaRootsP
import Derived.Test.YtolkgdchinaonaaGreys
import Derived.Test.YtolkgdchinaonaaPlace
namespace Go.Proofs.Ytolkgdchinaonaa
open Go.RowKit
set_option linter.unusedVariables false
set_option linter.unusedSimpArgs false

theorem greysTo_none {c : Cfg} {l : List Int} (n : Nat) (h : greysTo c l n = []) : ∀ i : Nat, i < n → wAt l (c.cellP 2 i) ≠ 1 := by
  induction n with
  | zero => intro i hi; omega
  | succ n ih =>
    intro i hi
    by_cases hw : wAt l (c.cellP 2 n) = 1
    · rw [greysTo_y hw] at h; simp at h
    · rw [greysTo_n hw] at h
      by_cases e : i = n
      · subst e; exact hw
      · exact ih h i (by omega)
theorem aStore_ws (ws : List Int) (i x : Int) (hi : 0 ≤ i ∧ i < ws.length) : (aStore i x).ws ws = ws.set i.toNat x := by
  unfold Acc.ws
  rw [if_pos (by simp [Acc.ok, aStore, hi])]
  rfl
/-- How the collector stands behind n steps of a quiet pass. -/
inductive PqAt (c : Cfg) (l : List Int) (n : Nat) (s : HS) (x : ColV) : Prop where
  | first (hn : n = 0) (hc : s.c = c) (hw : s.ws = l) (hx : x = ⟨3, 0, 0, 0, 0, 0, true, 0, 0⟩)
  | cell (i : Nat) (hi : (i : Int) < c.cells) (hn : n = i + 1) (hc : s.c = c) (hw : s.ws = l.set 2 0) (hx : x = ⟨4, 0, i, 0, 0, 0, false, 0, 0⟩)
  | over (hn : (n : Int) = c.cells + 1) (hc : s.c = c) (hw : s.ws = l.set 2 0) (hx : x = ⟨10, 0, c.cells, 0, 0, 0, false, 0, 0⟩)
theorem PqAt.cfg {c : Cfg} {l : List Int} {n : Nat} {s : HS} {x : ColV} (h : PqAt c l n s x) : s.c = c := by cases h <;> assumption
theorem PqAt.step {c : Cfg} (hR : c.Right) {l : List Int} (hl : (l.length : Int) = c.words) (hg : greysTo c l c.cells.toNat = []) {n : Nat} {s : HS} {x : ColV} (h : PqAt c l n s x) (hn : (n : Int) ≤ c.cells) :
    (x.line = 3 ∨ x.line = 4) ∧ PqAt c l (n + 1) (passM s x).s (passM s x).x := by
  have hc0 := hR.c0
  have hpos := cA_bd hR
  have hcw := cA_words c
  cases h with
  | first h0 hc hw e =>
    subst e; subst h0
    obtain ⟨c', ws, acc⟩ := s
    simp only at hc hw
    subst hc; subst hw
    refine ⟨.inl rfl, ?_⟩
    unfold passM
    simp only [if_true]
    exact .cell 0 (by omega) rfl rfl (aStore_ws ws 2 0 (by omega)) rfl
  | cell i hi hn' hc hw e =>
    subst e; subst hn'
    obtain ⟨c', ws, acc⟩ := s
    simp only at hc hw
    subst hc; subst hw
    refine ⟨.inr rfl, ?_⟩
    unfold passM
    simp only [if_true]
    rw [if_neg (by omega)]
    have hw : wAt (l.set 2 0) (c'.cellP 2 i) ≠ 1 := by
      rw [show (2 : Nat) = (2 : Int).toNat from rfl, wAt_set (by omega)]
      split
      · omega
      · exact greysTo_none _ hg i (by omega)
    rw [if_neg hw]
    unfold passNext
    simp only [Bool.false_eq_true, if_false]
    by_cases h2 : (i : Int) + 1 < c'.cells
    · rw [if_pos h2]
      exact .cell (i + 1) (by omega) rfl rfl (aLoad_ws0 _ _) (by rfl)
    · rw [if_neg h2]
      exact .over (by omega) rfl (aLoad_ws0 _ _) (by rw [show c'.cells = (i : Int) + 1 by omega])
  | over h2 => omega
theorem PqAt.wf {c : Cfg} (hR : c.Right) {l : List Int} {n : Nat} {s : HS} {x : ColV} (h : PqAt c l n s x) : x.Wf ∧ x.Near := by
  have h1 := hR.c1
  have h0 := hR.c0
  cases h with
  | first hn hc hw e => subst e; exact ⟨by constructor <;> simp only <;> omega, by constructor <;> simp only <;> omega⟩
  | cell i hi hn hc hw e => subst e; exact ⟨by constructor <;> simp only <;> omega, by constructor <;> simp only <;> omega⟩
  | over hn hc hw e => subst e; exact ⟨by constructor <;> simp only <;> omega, by constructor <;> simp only <;> omega⟩
theorem PqAt.ends {c : Cfg} (hR : c.Right) {l : List Int} {n : Nat} {s : HS} {x : ColV} (h : PqAt c l n s x) (hn : c.cells < n) : x.line = 10 ∧ x.found = false ∧ x.m = 0 ∧ s.ws = l.set 2 0 ∧ (n : Int) = c.cells + 1 := by
  have h0' := hR.c0
  cases h with
  | first h0 hc hw e => subst e; subst hw; omega
  | cell i hi hn' hc hw e => omega
  | over hn' hc hw e => subst e; exact ⟨rfl, rfl, rfl, hw, hn'⟩
/-- The grey cells, by their number alone. -/
theorem rgreys_n {w : World} {c : Cfg} (hR : c.Right) (v : Value) (l : List Int) (hv : RdS w v l.length (u64s l)) (hn : (l.length : Int) = c.words) :
    Calls Try.prog 56 #[c.val, v] w fun e w' => (∃ a cap, e = .returned (.slice a (greysTo c l c.cells.toNat).length cap)) ∧ Fr [] w w' := by
  refine (rgreys_any hR v l hv hn).mono ?_
  rintro e w' ⟨⟨u, rfl, hr⟩, hF⟩
  obtain ⟨a, cap, rfl, _⟩ := hr.elim
  exact ⟨⟨_, _, rfl⟩, hF⟩

end Go.Proofs.Ytolkgdchinaonaa
