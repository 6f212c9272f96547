/- roots.Step and the document's, as one plain function. -/
import Derived.Test.YteggckdgjecfmaaRoots
import Derived.Test.YteggckdgjecfmaaRootsRef
import Derived.Test.YteggckdgjecfmaaNear
namespace Go.Proofs.Yteggckdgjecfmaa
open Go.RowKit
set_option linter.unusedVariables false
set_option linter.unusedSimpArgs false

theorem rs_any {w : World} {h ab db : Nat} {s : HS} (H : HAt w h ab db s) (x : ColV) (hx : x.Wf) (hn : x.Near) :
    Calls Try.prog 74 #[.pointer (some ⟨h, 0, none⟩), x.val] w fun e w' => e = .returned (.tuple #[(rsM s x).x.val, .bool (rsM s x).is]) ∧ HAt w' h ab db (rsM s x).s ∧ Fr [h, db] w w' := by
  have hj := hn.j
  have hp0 := hx.p.1
  have hp1 := hx.p.2
  obtain ⟨line, j, c, m, a, p, found, tail, cyc⟩ := x
  simp only at hj hp0 hp1
  clear hx hn
  unfold ColV.val
  by_cases k1 : line = 1
  · subst k1
    by_cases hn : isCell (wAt s.ws (s.c.rootP j)) = true
    · have e : rsM s ⟨1, j, c, m, a, p, found, tail, cyc⟩ = ⟨⟨2, j, c, m, a, wAt s.ws (s.c.rootP j), found, tail, cyc⟩, true, s.doIt (aLoad (s.c.rootP j))⟩ := by simp [rsM, hn]
      rw [e]
      exact rs1y H j c m a p tail cyc found hj hn
    · have hn2 : isCell (wAt s.ws (s.c.rootP j)) = false := by simpa using hn
      by_cases hl : j + 1 < s.c.roots
      · have e : rsM s ⟨1, j, c, m, a, p, found, tail, cyc⟩ = ⟨⟨1, j + 1, c, m, a, 0, found, tail, cyc⟩, true, s.doIt (aLoad (s.c.rootP j))⟩ := by simp [rsM, rsNext, hn, hl]
        rw [e]
        exact rs1na H j c m a p tail cyc found hj hn2 hl
      · have e : rsM s ⟨1, j, c, m, a, p, found, tail, cyc⟩ = ⟨⟨3, j + 1, c, m, a, 0, found, tail, cyc⟩, true, s.doIt (aLoad (s.c.rootP j))⟩ := by simp [rsM, rsNext, hn, hl]
        rw [e]
        exact rs1nb H j c m a p tail cyc found hj hn2 hl
  by_cases k2 : line = 2
  · subst k2
    by_cases hl : j + 1 < s.c.roots
    · have e : rsM s ⟨2, j, c, m, a, p, found, tail, cyc⟩ = ⟨⟨1, j + 1, c, m, a, 0, found, tail, cyc⟩, true, s.doIt (aCas (s.c.fieldP p 2) 0 1)⟩ := by simp [rsM, rsNext, hl]
      rw [e]
      exact rs2a H j c m a p tail cyc found hj hp0 hp1 hl
    · have e : rsM s ⟨2, j, c, m, a, p, found, tail, cyc⟩ = ⟨⟨3, j + 1, c, m, a, 0, found, tail, cyc⟩, true, s.doIt (aCas (s.c.fieldP p 2) 0 1)⟩ := by simp [rsM, rsNext, hl]
      rw [e]
      exact rs2b H j c m a p tail cyc found hj hp0 hp1 hl
  have e : rsM s ⟨line, j, c, m, a, p, found, tail, cyc⟩ = ⟨⟨line, j, c, m, a, p, found, tail, cyc⟩, false, s⟩ := by simp [rsM, k1, k2]
  rw [e]
  exact rsno H line j c m a p tail cyc found k1 k2

theorem rrs_any {w : World} {r rd cap : Nat} {ext : List Value} {s : HS} (H : RAt w r rd cap ext s) (x : ColV) (hx : x.Wf) (hn : x.Near) :
    Calls Try.prog 148 #[.pointer (some ⟨r, 0, none⟩), x.val] w fun e w' => e = .returned (.tuple #[(rsM s x).x.val, .bool (rsM s x).is]) ∧ RAt w' r rd cap ext (rsM s x).s ∧ Fr [r, rd] w w' := by
  have hj := hn.j
  have hp0 := hx.p.1
  have hp1 := hx.p.2
  obtain ⟨line, j, c, m, a, p, found, tail, cyc⟩ := x
  simp only at hj hp0 hp1
  clear hx hn
  unfold ColV.val
  by_cases k1 : line = 1
  · subst k1
    by_cases hn : isCell (wAt s.ws (s.c.rootP j)) = true
    · have e : rsM s ⟨1, j, c, m, a, p, found, tail, cyc⟩ = ⟨⟨2, j, c, m, a, wAt s.ws (s.c.rootP j), found, tail, cyc⟩, true, s.doIt (aLoad (s.c.rootP j))⟩ := by simp [rsM, hn]
      rw [e]
      exact rrs1y H j c m a p tail cyc found hj hn
    · have hn2 : isCell (wAt s.ws (s.c.rootP j)) = false := by simpa using hn
      by_cases hl : j + 1 < s.c.roots
      · have e : rsM s ⟨1, j, c, m, a, p, found, tail, cyc⟩ = ⟨⟨1, j + 1, c, m, a, 0, found, tail, cyc⟩, true, s.doIt (aLoad (s.c.rootP j))⟩ := by simp [rsM, rsNext, hn, hl]
        rw [e]
        exact rrs1na H j c m a p tail cyc found hj hn2 hl
      · have e : rsM s ⟨1, j, c, m, a, p, found, tail, cyc⟩ = ⟨⟨3, j + 1, c, m, a, 0, found, tail, cyc⟩, true, s.doIt (aLoad (s.c.rootP j))⟩ := by simp [rsM, rsNext, hn, hl]
        rw [e]
        exact rrs1nb H j c m a p tail cyc found hj hn2 hl
  by_cases k2 : line = 2
  · subst k2
    by_cases hl : j + 1 < s.c.roots
    · have e : rsM s ⟨2, j, c, m, a, p, found, tail, cyc⟩ = ⟨⟨1, j + 1, c, m, a, 0, found, tail, cyc⟩, true, s.doIt (aCas (s.c.fieldP p 2) 0 1)⟩ := by simp [rsM, rsNext, hl]
      rw [e]
      exact rrs2a H j c m a p tail cyc found hj hp0 hp1 hl
    · have e : rsM s ⟨2, j, c, m, a, p, found, tail, cyc⟩ = ⟨⟨3, j + 1, c, m, a, 0, found, tail, cyc⟩, true, s.doIt (aCas (s.c.fieldP p 2) 0 1)⟩ := by simp [rsM, rsNext, hl]
      rw [e]
      exact rrs2b H j c m a p tail cyc found hj hp0 hp1 hl
  have e : rsM s ⟨line, j, c, m, a, p, found, tail, cyc⟩ = ⟨⟨line, j, c, m, a, p, found, tail, cyc⟩, false, s⟩ := by simp [rsM, k1, k2]
  rw [e]
  exact rrsno H line j c m a p tail cyc found k1 k2

end Go.Proofs.Yteggckdgjecfmaa
