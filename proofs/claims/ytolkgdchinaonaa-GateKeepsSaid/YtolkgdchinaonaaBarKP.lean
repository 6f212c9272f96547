/- Mutators that go in and out while a collector shuts and opens: the plain law. No program is named here. -/
import Derived.Test.YtolkgdchinaonaaGateKP
namespace Go.Proofs.Ytolkgdchinaonaa
open Go.RowKit
set_option linter.unusedVariables false
set_option linter.unusedSimpArgs false

/-- A collector at the bar. -/
def bc (l m a : Int) : ColV := ⟨l, 0, 0, m, a, 0, false, 0, 0⟩
def insL (l : Int) : Prop := l = 3 ∨ 5 < l
instance (l : Int) : Decidable (insL l) := by unfold insL; infer_instance
/-- The line of mutator j. -/
def lineOf (A : List MutV) (j : Nat) : Int := (A.getD j (mv 0 0)).line
def shutB (l : Int) : Bool := decide (12 ≤ l) && decide (l ≤ 15)
/-- How all stands. -/
structure BkAt (k : Nat) (s : HS) (A : List MutV) (l m a : Int) : Prop where
  gk : GkAt k (shutB l) s A
  dirty : wAt s.ws 2 = 0
  line : l = 10 ∨ l = 16 ∨ l = 11 ∨ l = 12 ∨ l = 13 ∨ l = 14 ∨ l = 20
  ab : 0 ≤ a ∧ a < 18446744073709551616
  cm : 0 ≤ m ∧ m < k
  cm0 : l = 11 ∨ l = 13 ∨ l = 14 ∨ l = 20 → m = 0
  look : l = 10 ∨ l = 16 → ∀ j : Nat, (j : Int) < m → lineOf A j ≠ 4 ∧ lineOf A j ≠ 5 ∧ lineOf A j ≠ 6
  look16 : l = 16 → lineOf A m.toNat = 4 → wAt s.ws (5 + m) = a
  shut : l = 11 → ∀ j, j < k → lineOf A j ≠ 4 ∧ lineOf A j ≠ 5 ∧ lineOf A j ≠ 6
  shut6 : shutB l = true → ∀ j, j < k → lineOf A j ≠ 6
  out12 : l = 12 → ∀ j : Nat, (j : Int) < m → ¬ insL (lineOf A j)
  out13 : l = 13 ∨ l = 14 → ∀ j, j < k → ¬ insL (lineOf A j)
theorem lineOf_get {A : List MutV} {j : Nat} {l q : Int} (h : A[j]? = some (mv l q)) : lineOf A j = l := by unfold lineOf; rw [List.getD_eq_getElem?_getD, h]; rfl
theorem lineOf_set {A : List MutV} {m j : Nat} (hm : m < A.length) (l q : Int) : lineOf (A.set m (mv l q)) j = if j = m then l else lineOf A j := by
  unfold lineOf
  rw [List.getD_eq_getElem?_getD, List.getD_eq_getElem?_getD]
  split
  · rename_i e; subst e; rw [List.getElem?_set_self hm]; rfl
  · rename_i e; rw [List.getElem?_set_ne (fun q => e q.symm)]
theorem inP_at2 {k : Nat} {m : Int} (hm : 0 ≤ m ∧ m < k) : (⟨2, k, 1, 0⟩ : Cfg).inP m = 5 + m := by
  unfold Cfg.inP pAt; simp only; rw [if_pos hm]; omega
/-- A mutator's step keeps it all. -/
theorem BkAt.mut {k : Nat} {s : HS} {A : List MutV} {l m a : Int} (h : BkAt k s A l m a) {j : Nat} (hj : j < k) {ln q : Int} (hA : A[j]? = some (mv ln q)) (hg : gkLine ln) (hw : wAt s.ws (5 + j) % 4 = sy ln) :
    (gateM s j (mv (gkFrom ln) 11)).is = true ∧ (gateM s j (mv (gkFrom ln) 11)).x = mv (gkNext (if shutB l = true then 1 else 0) (gkFrom ln)) 11 ∧
    BkAt k (gateM s j (mv (gkFrom ln) 11)).s (A.set j (mv (gkNext (if shutB l = true then 1 else 0) (gkFrom ln)) 11)) l m a := by
  have hlA := h.gk.lenA
  have hlen := h.gk.len
  obtain ⟨h1, h2, h3, h4⟩ := h.gk.step hj hg hw
  refine ⟨h1, h2, ?_⟩
  have hlm : gkFrom ln = 1 ∨ gkFrom ln = 2 ∨ gkFrom ln = 3 ∨ gkFrom ln = 4 ∨ gkFrom ln = 5 ∨ gkFrom ln = 6 ∨ gkFrom ln = 90 := by
    rcases hg with rfl | rfl | rfl | rfl | rfl | rfl | rfl <;> decide
  obtain ⟨_, _, _, e4⟩ := gk_step (s := s) h.gk.cfg (by omega) hj hlm
  have hws : ∀ p : Int, p ≠ 5 + j → wAt (gateM s j (mv (gkFrom ln) 11)).s.ws p = wAt s.ws p := by
    intro p hp
    rw [e4]
    split
    · rfl
    · have := wAt_set (ws := s.ws) (i := 5 + j) (j := p) (x := addW (wAt s.ws (5 + j)) (gkAdd (gkFrom ln))) (by omega)
      rw [show (5 + (j : Int)).toNat = 5 + j by omega] at this
      rw [this, if_neg hp]
  have hset := fun i => lineOf_set (A := A) (m := j) (j := i) (by omega) (gkNext (if shutB l = true then 1 else 0) (gkFrom ln)) 11
  have hmy : lineOf A j = ln := lineOf_get hA
  have hopen : shutB l = false → gkNext (if shutB l = true then 1 else 0) (gkFrom ln) = 4 → False := by
    intro e e2
    rw [e] at e2
    rcases hg with rfl | rfl | rfl | rfl | rfl | rfl | rfl <;> revert e2 <;> decide
  have hopen2 : shutB l = false → (ln ≠ 4 ∧ ln ≠ 5 ∧ ln ≠ 6) → (gkNext (if shutB l = true then 1 else 0) (gkFrom ln) ≠ 4 ∧ gkNext (if shutB l = true then 1 else 0) (gkFrom ln) ≠ 5 ∧ gkNext (if shutB l = true then 1 else 0) (gkFrom ln) ≠ 6) := by
    intro e e2
    rw [e]
    rcases hg with rfl | rfl | rfl | rfl | rfl | rfl | rfl <;> revert e2 <;> decide
  have hshut : shutB l = true → gkNext (if shutB l = true then 1 else 0) (gkFrom ln) ≠ 6 ∧ (¬ insL ln → ¬ insL (gkNext (if shutB l = true then 1 else 0) (gkFrom ln))) := by
    intro e
    rw [e]
    rcases hg with rfl | rfl | rfl | rfl | rfl | rfl | rfl <;> decide
  have hsl : ∀ b, (l = 10 ∨ l = 16 ∨ l = 11 → b = false) → (l = 12 ∨ l = 13 ∨ l = 14 → b = true) → True := fun _ _ _ => trivial
  have s10 : l = 10 ∨ l = 16 ∨ l = 11 → shutB l = false := by rintro (e | e | e) <;> rw [e] <;> rfl
  have s12 : l = 12 ∨ l = 13 ∨ l = 14 → shutB l = true := by rintro (e | e | e) <;> rw [e] <;> rfl
  refine ⟨h4, by rw [hws 2 (by omega)]; exact h.dirty, h.line, h.ab, h.cm, h.cm0, ?_, ?_, ?_, ?_, ?_, ?_⟩
  · intro e i hi
    have := h.look e i hi
    rw [hset]
    split
    · rename_i e2; subst e2; rw [hmy] at this; exact hopen2 (s10 (by omega)) this
    · exact this
  · intro e
    rw [hset]
    split
    · exact fun e2 => (hopen (s10 (by omega)) e2).elim
    · rename_i e2
      intro e3
      rw [hws _ (by have := h.cm; omega)]
      exact h.look16 e e3
  · intro e i hi
    have := h.shut e i hi
    rw [hset]
    split
    · rename_i e2; subst e2; rw [hmy] at this; exact hopen2 (s10 (by omega)) this
    · exact this
  · intro e i hi
    have := h.shut6 e i hi
    rw [hset]
    by_cases e2 : i = j
    · rw [if_pos e2]; exact (hshut e).1
    · rw [if_neg e2]; exact this
  · intro e i hi
    have := h.out12 e i hi
    rw [hset]
    split
    · rename_i e2; subst e2; rw [hmy] at this; exact (hshut (s12 (by omega))).2 this
    · exact this
  · intro e i hi
    have := h.out13 e i hi
    rw [hset]
    split
    · rename_i e2; subst e2; rw [hmy] at this; exact (hshut (s12 (by omega))).2 this
    · exact this
theorem barPass_bc {k : Nat} {l m a b ln bh : Int} : barPass ⟨2, k, 1, 0⟩ { bc l m a with a := b } ln bh = if (k : Int) ≤ m + 1 then bc bh 0 b else bc ln (m + 1) b := rfl
theorem barPass_bc2 {k : Nat} {l m a ln bh : Int} : barPass ⟨2, k, 1, 0⟩ (bc l m a) ln bh = if (k : Int) ≤ m + 1 then bc bh 0 a else bc ln (m + 1) a := rfl
/-- The collector begins anew. -/
theorem BkAt.anew {k : Nat} {s : HS} {A : List MutV} {m a : Int} (h : BkAt k s A 20 m a) : BkAt k s A 10 0 a := by
  have hk := h.cm
  exact ⟨h.gk, h.dirty, .inl rfl, h.ab, ⟨by omega, by omega⟩, fun _ => rfl, fun _ j hj => by omega, fun e => by omega, fun e => by omega, fun e => by simp [shutB] at e, fun e => by omega, fun e => by omega⟩
/-- Behind a load, or a store to the gate, of which the words are these. -/
theorem GkAt.load {k : Nat} {cl : Bool} {s : HS} {A : List MutV} (h : GkAt k cl s A) (i : Int) : GkAt k cl (s.doIt (aLoad i)) A := by
  have e : (s.doIt (aLoad i)).ws = s.ws := aLoad_ws0 _ _
  exact ⟨h.cfg, by rw [e]; exact h.len, by rw [e]; exact h.gate, by rw [e]; exact h.bd, h.lenA, by rw [e]; exact h.mu⟩
theorem bk_look {k : Nat} {s : HS} {A : List MutV} {b : Bool} (h : GkAt k b s A) {m : Int} (hm : 0 ≤ m ∧ m < k) : gkLine (lineOf A m.toNat) ∧ wAt s.ws (5 + m) % 4 = sy (lineOf A m.toNat) := by
  obtain ⟨l, q, h1, _, h2, h3⟩ := h.at (m := m.toNat) (by omega)
  rw [lineOf_get h1]
  exact ⟨h2, by rw [show (5 : Int) + m = 5 + (m.toNat : Nat) by omega]; exact h3⟩
theorem barM10 (s : HS) (m a : Int) : barM s (bc 10 m a) = if wAt s.ws (s.c.inP m) % 4 = 0 ∨ wAt s.ws (s.c.inP m) % 4 = 2 then ⟨barPass s.c { bc 10 m a with a := 0 } 10 11, false, true, s.doIt (aLoad (s.c.inP m))⟩ else ⟨bc 16 m (wAt s.ws (s.c.inP m)), false, true, s.doIt (aLoad (s.c.inP m))⟩ := rfl
theorem barM16 (s : HS) (m a : Int) : barM s (bc 16 m a) = if wAt s.ws (s.c.inP m) = a then ⟨bc 16 m a, false, true, s.doIt (aLoad (s.c.inP m))⟩ else if wAt s.ws (s.c.inP m) % 4 = 3 then ⟨bc 16 m (wAt s.ws (s.c.inP m)), false, true, s.doIt (aLoad (s.c.inP m))⟩ else ⟨barPass s.c { bc 16 m a with a := 0 } 10 11, false, true, s.doIt (aLoad (s.c.inP m))⟩ := rfl
theorem barM11 (s : HS) (m a : Int) : barM s (bc 11 m a) = ⟨bc 12 m a, false, true, s.doIt (aStore 1 1)⟩ := rfl
theorem barM12 (s : HS) (m a : Int) : barM s (bc 12 m a) = if wAt s.ws (s.c.inP m) % 4 = 0 ∨ wAt s.ws (s.c.inP m) % 4 = 3 then ⟨barPass s.c (bc 12 m a) 12 13, false, true, s.doIt (aLoad (s.c.inP m))⟩ else ⟨bc 12 m a, false, true, s.doIt (aLoad (s.c.inP m))⟩ := rfl
theorem barM13 (s : HS) (m a : Int) : barM s (bc 13 m a) = if wAt s.ws 2 = 0 then ⟨bc 14 m a, true, true, s.doIt (aLoad 2)⟩ else ⟨bc 15 m a, false, true, s.doIt (aLoad 2)⟩ := rfl
theorem barM14 (s : HS) (m a : Int) : barM s (bc 14 m a) = ⟨bc 20 m a, false, true, s.doIt (aStore 1 0)⟩ := rfl
/-- The collector's step. -/
theorem BkAt.col {k : Nat} {s : HS} {A : List MutV} {l m a : Int} (h : BkAt k s A l m a) (hl : l ≠ 20) :
    (barM s (bc l m a)).is = true ∧ ∃ l' m' a', (barM s (bc l m a)).x = bc l' m' a' ∧ BkAt k (barM s (bc l m a)).s A l' m' a' := by
  have hlen := h.gk.len
  have hcm := h.cm
  have hbd := h.gk.bd (5 + m)
  obtain ⟨c, ws, acc⟩ := s
  have hc : c = ⟨2, k, 1, 0⟩ := h.gk.cfg
  subst hc
  have hin := inP_at2 hcm
  obtain ⟨hg, hw⟩ := bk_look h.gk hcm
  have hload : ∀ i, ((⟨⟨2, k, 1, 0⟩, ws, acc⟩ : HS).doIt (aLoad i)).ws = ws := fun i => aLoad_ws0 i ws
  have hpass : ∀ j : Nat, (j : Int) < m + 1 → (j : Int) < m ∨ j = m.toNat := by intro j hj; omega
  have hall : ¬ m + 1 < k → ∀ j : Nat, j < k → (j : Int) < m ∨ j = m.toNat := by intro h j hj; omega
  have hdir := h.dirty
  simp only at hw hbd hdir
  -- passing a mutator at 10 or 16
  have pass10 : (l = 10 ∨ l = 16) → (lineOf A m.toNat ≠ 4 ∧ lineOf A m.toNat ≠ 5 ∧ lineOf A m.toNat ≠ 6) → ∀ i a1, ∃ l' m' a', barPass ⟨2, k, 1, 0⟩ { bc l m a1 with a := 0 } 10 11 = bc l' m' a' ∧ BkAt k ((⟨⟨2, k, 1, 0⟩, ws, acc⟩ : HS).doIt (aLoad i)) A l' m' a' := by
    intro e hne i a1
    have hgk := h.gk.load i
    have hsb : shutB l = false := by rcases e with e | e <;> rw [e] <;> rfl
    rw [hsb] at hgk
    rw [barPass_bc]
    by_cases h1 : (k : Int) ≤ m + 1
    · rw [if_pos h1]
      refine ⟨11, 0, 0, rfl, hgk, by rw [hload]; exact h.dirty, by omega, by omega, by omega, fun _ => rfl, fun e => by omega, fun e => by omega, ?_, fun e => by simp [shutB] at e, fun e => by omega, fun e => by omega⟩
      intro _ j hj
      rcases hall (by omega) j hj with q | q
      · exact h.look e j q
      · rw [q]; exact hne
    · rw [if_neg h1]
      refine ⟨10, m + 1, 0, rfl, hgk, by rw [hload]; exact h.dirty, by omega, by omega, by omega, fun e => by omega, ?_, fun e => by omega, fun e => by omega, fun e => by simp [shutB] at e, fun e => by omega, fun e => by omega⟩
      intro _ j hj
      rcases hpass j hj with q | q
      · exact h.look e j q
      · rw [q]; exact hne
  have h456 : lineOf A m.toNat = 4 → wAt ws (5 + m) % 4 = 1 := fun e => by rw [hw, e]; decide
  have h5 : lineOf A m.toNat = 5 → wAt ws (5 + m) % 4 = 3 := fun e => by rw [hw, e]; decide
  have h6 : lineOf A m.toNat = 6 → wAt ws (5 + m) % 4 = 3 := fun e => by rw [hw, e]; decide
  have go16 : (l = 10 ∨ l = 16) → ∀ i, BkAt k ((⟨⟨2, k, 1, 0⟩, ws, acc⟩ : HS).doIt (aLoad i)) A 16 m (wAt ws (5 + m)) := by
    intro e i
    have hgk := h.gk.load i
    have hsb : shutB l = false := by rcases e with e | e <;> rw [e] <;> rfl
    rw [hsb] at hgk
    exact ⟨hgk, by rw [hload]; exact h.dirty, by omega, hbd, hcm, fun e => by omega, fun _ => h.look e, fun _ _ => by rw [hload], fun e => by omega, fun e => by simp [shutB] at e, fun e => by omega, fun e => by omega⟩
  have hin0 : (⟨⟨2, k, 1, 0⟩, ws, acc⟩ : HS).c.inP m = 5 + m := hin
  rcases h.line with e | e | e | e | e | e | e
  · subst e
    rw [barM10, hin0]
    by_cases hp : wAt ws (5 + m) % 4 = 0 ∨ wAt ws (5 + m) % 4 = 2
    · rw [if_pos hp]
      exact ⟨rfl, pass10 (.inl rfl) ⟨fun q => by have := h456 q; omega, fun q => by have := h5 q; omega, fun q => by have := h6 q; omega⟩ _ a⟩
    · rw [if_neg hp]
      exact ⟨rfl, 16, m, wAt ws (5 + m), rfl, go16 (.inl rfl) _⟩
  · subst e
    rw [barM16, hin0]
    by_cases hp : wAt ws (5 + m) = a
    · rw [if_pos hp]
      exact ⟨rfl, 16, m, wAt ws (5 + m), by rw [hp], go16 (.inr rfl) _⟩
    · rw [if_neg hp]
      by_cases h3 : wAt ws (5 + m) % 4 = 3
      · rw [if_pos h3]
        exact ⟨rfl, 16, m, wAt ws (5 + m), rfl, go16 (.inr rfl) _⟩
      · rw [if_neg h3]
        exact ⟨rfl, pass10 (.inr rfl) ⟨fun q => hp (h.look16 rfl q), fun q => by have := h5 q; omega, fun q => by have := h6 q; omega⟩ _ a⟩
  · subst e
    obtain rfl := h.cm0 (by omega)
    rw [barM11]
    have hgk := h.gk.flip true
    refine ⟨rfl, 12, 0, a, rfl, hgk, ?_, by omega, h.ab, by omega, fun e => by omega, fun e => by omega, fun e => by omega, fun e => by omega, ?_, fun _ j hj => by omega, fun e => by omega⟩
    · show wAt ((aStore 1 1).ws ws) 2 = 0
      rw [aStore_wsM _ _ _ (by simp only at hlen; omega), wAt_set (by simp only at hlen; omega), if_neg (by omega)]; exact hdir
    · intro _ j hj; exact (h.shut rfl j hj).2.2
  · subst e
    have hgk := h.gk.load (5 + m)
    rw [barM12, hin0]
    by_cases hp : wAt ws (5 + m) % 4 = 0 ∨ wAt ws (5 + m) % 4 = 3
    · rw [if_pos hp]
      have hno : ¬ insL (lineOf A m.toNat) := by
        rw [hw] at hp
        have h6' := h.shut6 rfl m.toNat (by omega)
        rcases hg with q | q | q | q | q | q | q <;> rw [q] at hp h6' ⊢ <;> first | (exfalso; revert hp; decide) | (exact absurd rfl h6') | decide
      rw [barPass_bc2]
      by_cases h1 : (k : Int) ≤ m + 1
      · rw [if_pos h1]
        refine ⟨rfl, 13, 0, a, rfl, hgk, by rw [hload]; exact h.dirty, by omega, h.ab, by omega, fun _ => rfl, fun e => by omega, fun e => by omega, fun e => by omega, fun _ => h.shut6 rfl, fun e => by omega, ?_⟩
        intro _ j hj
        rcases hall (by omega) j hj with q | q
        · exact h.out12 rfl j q
        · rw [q]; exact hno
      · rw [if_neg h1]
        refine ⟨rfl, 12, m + 1, a, rfl, hgk, by rw [hload]; exact h.dirty, by omega, h.ab, by omega, fun e => by omega, fun e => by omega, fun e => by omega, fun e => by omega, fun _ => h.shut6 rfl, ?_, fun e => by omega⟩
        intro _ j hj
        rcases hpass j hj with q | q
        · exact h.out12 rfl j q
        · rw [q]; exact hno
    · rw [if_neg hp]
      exact ⟨rfl, 12, m, a, rfl, hgk, by rw [hload]; exact h.dirty, h.line, h.ab, h.cm, h.cm0, fun e => by omega, fun e => by omega, fun e => by omega, h.shut6, h.out12, h.out13⟩
  · subst e
    obtain rfl := h.cm0 (by omega)
    have hgk := h.gk.load 2
    rw [barM13, if_pos hdir]
    exact ⟨rfl, 14, 0, a, rfl, hgk, by rw [hload]; exact h.dirty, by omega, h.ab, by omega, fun _ => rfl, fun e => by omega, fun e => by omega, fun e => by omega, fun _ => h.shut6 rfl, fun e => by omega, fun _ => h.out13 (.inl rfl)⟩
  · subst e
    obtain rfl := h.cm0 (by omega)
    rw [barM14]
    have hgk := h.gk.flip false
    refine ⟨rfl, 20, 0, a, rfl, hgk, ?_, by omega, h.ab, by omega, fun _ => rfl, fun e => by omega, fun e => by omega, fun e => by omega, fun e => by simp [shutB] at e, fun e => by omega, fun e => by omega⟩
    show wAt ((aStore 1 0).ws ws) 2 = 0
    rw [aStore_wsM _ _ _ (by simp only at hlen; omega), wAt_set (by simp only at hlen; omega), if_neg (by omega)]; exact hdir
  · exact absurd e hl

end Go.Proofs.Ytolkgdchinaonaa
