/- Mutators that go in and out through the gate: the plain law. No program is named here. -/
import Derived.Test.YtolkgdchinaonaaPassMP
namespace Go.Proofs.Ytolkgdchinaonaa
open Go.RowKit
set_option linter.unusedVariables false
set_option linter.unusedSimpArgs false

/-- A mutator that asks whether a thing is an atom, at a line. -/
def mv (l k : Int) : MutV := ⟨l, k, 0, 0, 0, 0, 0, 0, 0, 0, 0, 0, 0⟩
/-- What an in says where a mutator is at a line. -/
def sy (l : Int) : Int := if l = 0 ∨ l = 1 then 0 else if l = 2 ∨ l = 3 ∨ l = 4 then 1 else if l = 5 ∨ l = 6 then 3 else 2
def gkLine (l : Int) : Prop := l = 0 ∨ l = 2 ∨ l = 3 ∨ l = 4 ∨ l = 5 ∨ l = 6 ∨ l = 24
instance (l : Int) : Decidable (gkLine l) := by unfold gkLine; infer_instance
theorem aAdd_ws (ws : List Int) (i x : Int) (hi : 0 ≤ i ∧ i < ws.length) : (aAdd i x).ws ws = ws.set i.toNat (addW (wAt ws i) x) := by
  unfold Acc.ws
  rw [if_pos (by simp [Acc.ok, aAdd, hi])]
  rfl
/-- What its step does to its in, by the line. -/
def gkAdd (l : Int) : Int := if l = 1 ∨ l = 3 then 1 else if l = 4 ∨ l = 90 then 2 else if l = 6 then 3 else 0
def gkNext (g l : Int) : Int := if l = 1 then 2 else if l = 2 then (if g = 0 then 3 else 4) else if l = 3 then 24 else if l = 4 then 5 else if l = 5 then (if g = 0 then 6 else 5) else if l = 6 then 24 else 0
/-- The line from which it is stepped. -/
def gkFrom (l : Int) : Int := if l = 0 then 1 else if l = 24 then 90 else l
theorem inP_at {k : Nat} {m : Nat} (hm : m < k) : (⟨2, k, 1, 0⟩ : Cfg).inP m = 5 + m := by
  unfold Cfg.inP pAt; simp only; rw [if_pos (by omega)]; omega
theorem gk_step {k : Nat} {s : HS} (hc : s.c = ⟨2, k, 1, 0⟩) (hl : 5 + k ≤ s.ws.length) {m : Nat} (hm : m < k) {l : Int} (h : l = 1 ∨ l = 2 ∨ l = 3 ∨ l = 4 ∨ l = 5 ∨ l = 6 ∨ l = 90) :
    (gateM s m (mv l 11)).is = true ∧ (gateM s m (mv l 11)).x = mv (gkNext (wAt s.ws 1) l) 11 ∧ (gateM s m (mv l 11)).s.c = s.c ∧ (gateM s m (mv l 11)).s.ws = if gkAdd l = 0 then s.ws else s.ws.set (5 + m) (addW (wAt s.ws (5 + m)) (gkAdd l)) := by
  obtain ⟨c, ws, acc⟩ := s
  simp only at hc hl
  subst hc
  have hi := inP_at hm
  have ha : ∀ x, (aAdd (5 + (m : Int)) x).ws ws = ws.set (5 + m) (addW (wAt ws (5 + m)) x) := fun x => by rw [aAdd_ws _ _ _ (by omega)]; rw [show (5 + (m : Int)).toNat = 5 + m by omega]
  rcases h with rfl | rfl | rfl | rfl | rfl | rfl | rfl
  · refine ⟨rfl, rfl, rfl, ?_⟩
    show (aAdd _ 1).ws ws = _
    rw [hi, ha]; rfl
  · refine ⟨rfl, rfl, rfl, ?_⟩
    show (aLoad 1).ws ws = _
    rw [aLoad_ws0]; rfl
  · refine ⟨rfl, rfl, rfl, ?_⟩
    show (aAdd _ 1).ws ws = _
    rw [hi, ha]; rfl
  · refine ⟨rfl, rfl, rfl, ?_⟩
    show (aAdd _ 2).ws ws = _
    rw [hi, ha]; rfl
  · refine ⟨rfl, rfl, rfl, ?_⟩
    show (aLoad 1).ws ws = _
    rw [aLoad_ws0]; rfl
  · refine ⟨rfl, rfl, rfl, ?_⟩
    show (aAdd _ 3).ws ws = _
    rw [hi, ha]; rfl
  · refine ⟨rfl, rfl, rfl, ?_⟩
    show (aAdd _ 2).ws ws = _
    rw [hi, ha]; rfl
theorem addW_four {a b : Int} (ha : 0 ≤ a) (hb : 0 ≤ b) : addW a b % 4 = (a + b) % 4 ∧ 0 ≤ addW a b ∧ addW a b < 18446744073709551616 := by unfold addW; omega
/-- How all stands. -/
structure GkAt (k : Nat) (closed : Bool) (s : HS) (A : List MutV) : Prop where
  cfg : s.c = ⟨2, k, 1, 0⟩
  len : s.ws.length = 11 + 2 * k
  gate : wAt s.ws 1 = if closed = true then 1 else 0
  bd : ∀ i, 0 ≤ wAt s.ws i ∧ wAt s.ws i < 18446744073709551616
  lenA : A.length = k
  mu : ∀ (m : Nat) x, A[m]? = some x → ∃ l, (x = mv l 11 ∨ x = mv l 0 ∧ l = 0) ∧ gkLine l ∧ wAt s.ws (5 + m) % 4 = sy l
theorem GkAt.at {k : Nat} {cl : Bool} {s : HS} {A : List MutV} (h : GkAt k cl s A) {m : Nat} (hm : m < k) : ∃ l q, A[m]? = some (mv l q) ∧ (q = 11 ∨ l = 0) ∧ gkLine l ∧ wAt s.ws (5 + m) % 4 = sy l := by
  have hx : m < A.length := by rw [h.lenA]; exact hm
  obtain ⟨l, h1, h2, h3⟩ := h.mu m A[m] (List.getElem?_eq_getElem hx)
  rcases h1 with e | ⟨e, e0⟩
  · exact ⟨l, 11, by rw [List.getElem?_eq_getElem hx, e], .inl rfl, h2, h3⟩
  · exact ⟨l, 0, by rw [List.getElem?_eq_getElem hx, e], .inr e0, h2, h3⟩
/-- The gate is opened or closed. -/
theorem GkAt.flip {k : Nat} {cl : Bool} {s : HS} {A : List MutV} (h : GkAt k cl s A) (cl2 : Bool) : GkAt k cl2 (s.doIt (aStore 1 (if cl2 = true then 1 else 0))) A := by
  have hl := h.len
  have e : (s.doIt (aStore 1 (if cl2 = true then 1 else 0))).ws = s.ws.set 1 (if cl2 = true then 1 else 0) := aStore_wsM s.ws 1 _ (by omega)
  have hs : ∀ q : Int, wAt (s.ws.set 1 (if cl2 = true then 1 else 0)) q = if q = 1 then (if cl2 = true then 1 else 0) else wAt s.ws q := fun q => by rw [show (1 : Nat) = (1 : Int).toNat from rfl, wAt_set (by omega)]
  refine ⟨h.cfg, by rw [e, List.length_set]; exact hl, by rw [e, hs, if_pos rfl], ?_, h.lenA, ?_⟩
  · intro i
    rw [e, hs]
    split
    · split <;> omega
    · exact h.bd i
  · intro m x hx
    obtain ⟨l, h1, h2, h3⟩ := h.mu m x hx
    exact ⟨l, h1, h2, by rw [e, hs, if_neg (by omega)]; exact h3⟩
/-- A mutator's step: where it is then, and what its in says. -/
theorem GkAt.step {k : Nat} {cl : Bool} {s : HS} {A : List MutV} (h : GkAt k cl s A) {m : Nat} (hm : m < k) {l : Int} (hg : gkLine l) (hw : wAt s.ws (5 + m) % 4 = sy l) :
    (gateM s m (mv (gkFrom l) 11)).is = true ∧ (gateM s m (mv (gkFrom l) 11)).x = mv (gkNext (if cl = true then 1 else 0) (gkFrom l)) 11 ∧
    wAt (gateM s m (mv (gkFrom l) 11)).s.ws (5 + m) % 4 = sy (gkNext (if cl = true then 1 else 0) (gkFrom l)) ∧
    GkAt k cl (gateM s m (mv (gkFrom l) 11)).s (A.set m (mv (gkNext (if cl = true then 1 else 0) (gkFrom l)) 11)) := by
  have hl := h.len
  have hlm : gkFrom l = 1 ∨ gkFrom l = 2 ∨ gkFrom l = 3 ∨ gkFrom l = 4 ∨ gkFrom l = 5 ∨ gkFrom l = 6 ∨ gkFrom l = 90 := by
    rcases hg with rfl | rfl | rfl | rfl | rfl | rfl | rfl <;> decide
  obtain ⟨h1, h2, h3, h4⟩ := gk_step (s := s) h.cfg (by omega) hm hlm
  rw [h.gate] at h2
  have hb := h.bd (5 + m)
  have hsay : ∀ d, 0 ≤ d → sy (gkNext (if cl = true then 1 else 0) (gkFrom l)) = (sy l + d) % 4 → addW (wAt s.ws (5 + m)) d % 4 = sy (gkNext (if cl = true then 1 else 0) (gkFrom l)) := by
    intro d hd e
    rw [(addW_four hb.1 hd).1, e]; omega
  have hgl : gkLine (gkNext (if cl = true then 1 else 0) (gkFrom l)) := by
    rcases hg with rfl | rfl | rfl | rfl | rfl | rfl | rfl <;> cases cl <;> decide
  have hd : sy (gkNext (if cl = true then 1 else 0) (gkFrom l)) = (sy l + gkAdd (gkFrom l)) % 4 ∧ 0 ≤ gkAdd (gkFrom l) := by
    rcases hg with rfl | rfl | rfl | rfl | rfl | rfl | rfl <;> cases cl <;> decide
  have hws : ∀ q : Int, wAt (gateM s m (mv (gkFrom l) 11)).s.ws q = if q = 5 + m then (if gkAdd (gkFrom l) = 0 then wAt s.ws q else addW (wAt s.ws (5 + m)) (gkAdd (gkFrom l))) else wAt s.ws q := by
    intro q
    rw [h4]
    split
    · split <;> rfl
    · have := wAt_set (ws := s.ws) (i := 5 + m) (j := q) (x := addW (wAt s.ws (5 + m)) (gkAdd (gkFrom l))) (by omega)
      rw [show (5 + (m : Int)).toNat = 5 + m by omega] at this
      exact this
  have hme : wAt (gateM s m (mv (gkFrom l) 11)).s.ws (5 + m) % 4 = sy (gkNext (if cl = true then 1 else 0) (gkFrom l)) := by
    rw [hws, if_pos rfl]
    split
    · rename_i e
      rw [hd.1, e, hw]
      have : 0 ≤ sy l ∧ sy l < 4 := by rw [← hw]; omega
      omega
    · exact hsay _ hd.2 hd.1
  refine ⟨h1, h2, hme, h3.trans h.cfg, ?_, ?_, ?_, ?_, ?_⟩
  · rw [h4]; split
    · exact hl
    · rw [List.length_set]; exact hl
  · rw [hws, if_neg (by omega)]; exact h.gate
  · intro i
    rw [hws]
    split
    · split
      · exact h.bd i
      · exact (addW_four hb.1 hd.2).2
    · exact h.bd i
  · rw [List.length_set]; exact h.lenA
  · intro j x hx
    by_cases e : j = m
    · subst e
      rw [List.getElem?_set_self (by rw [h.lenA]; exact hm)] at hx
      cases hx
      exact ⟨_, .inl rfl, hgl, hme⟩
    · rw [List.getElem?_set_ne (fun q => e q.symm)] at hx
      obtain ⟨l', q1, q2, q3⟩ := h.mu j x hx
      exact ⟨l', q1, q2, by rw [hws, if_neg (by omega)]; exact q3⟩

end Go.Proofs.Ytolkgdchinaonaa
