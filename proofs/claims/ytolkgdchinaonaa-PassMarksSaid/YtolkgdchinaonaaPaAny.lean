/- pass.Step and the document's, as one plain function. -/
import Derived.Test.YtolkgdchinaonaaPass
import Derived.Test.YtolkgdchinaonaaBaAny
import Derived.Test.YtolkgdchinaonaaNear
namespace Go.Proofs.Ytolkgdchinaonaa
open Go.RowKit
set_option linter.unusedVariables false
set_option linter.unusedSimpArgs false

theorem pa_any {w : World} {h ab db : Nat} {s : HS} (H : HAt w h ab db s) (x : ColV) (hx : x.Wf) (hn : x.Near) :
    Calls Try.prog 55 #[.pointer (some ⟨h, 0, none⟩), x.val] w fun e w' => e = .returned (.tuple #[(passM s x).x.val, .bool (passM s x).is]) ∧ HAt w' h ab db (passM s x).s ∧ Fr [h, db] w w' := by
  have hc := hn.c
  have ha0 := hx.a.1
  have ha1 := hx.a.2
  have hb := hbd H
  obtain ⟨line, j, c, m, a, p, found, tail, cyc⟩ := x
  simp only at hc ha0 ha1
  clear hx hn
  unfold ColV.val
  by_cases k0 : line = 3
  · subst k0
    have e : passM s ⟨3, j, c, m, a, p, found, tail, cyc⟩ = ⟨⟨4, j, 0, m, a, p, false, tail, cyc⟩, true, s.doIt (aStore 2 0)⟩ := by simp [passM, passNext]
    rw [e]
    exact pa3 H j c m a p tail cyc found
  by_cases k1 : line = 4
  · subst k1
    by_cases h1 : wAt s.ws (s.c.cellP 2 c) = 1
    · have e : passM s ⟨4, j, c, m, a, p, found, tail, cyc⟩ = ⟨⟨5, j, c, m, a, p, found, tail, cyc⟩, true, s.doIt (aLoad (s.c.cellP 2 c))⟩ := by simp [passM, passNext, h1]
      rw [e]
      exact pa4g H j c m a p tail cyc found _ rfl (by simpa using h1)
    by_cases hl : c + 1 < s.c.cells
    · have e : passM s ⟨4, j, c, m, a, p, found, tail, cyc⟩ = ⟨⟨4, j, c + 1, m, a, p, found, tail, cyc⟩, true, s.doIt (aLoad (s.c.cellP 2 c))⟩ := by simp [passM, passNext, h1, hl]
      rw [e]
      exact pa4m H j c m a p tail cyc found _ rfl (by simpa using h1) hc hl
    by_cases hf : found = true
    · have e : passM s ⟨4, j, c, m, a, p, found, tail, cyc⟩ = ⟨⟨3, j, c + 1, m, a, p, found, tail, cyc⟩, true, s.doIt (aLoad (s.c.cellP 2 c))⟩ := by simp [passM, passNext, h1, hl, hf]
      rw [e]
      exact pa4f H j c m a p tail cyc found _ rfl (by simpa using h1) hc (by omega) hf
    have e : passM s ⟨4, j, c, m, a, p, found, tail, cyc⟩ = ⟨⟨10, j, c + 1, 0, a, p, found, tail, cyc⟩, true, s.doIt (aLoad (s.c.cellP 2 c))⟩ := by simp [passM, passNext, h1, hl, hf]
    rw [e]
    exact pa4o H j c m a p tail cyc found _ rfl (by simpa using h1) hc (by omega) (by simpa using hf)
  by_cases k2 : line = 5
  · subst k2
    by_cases hv : isCell (wAt s.ws (s.c.cellP 0 c)) = true
    · have e : passM s ⟨5, j, c, m, a, p, found, tail, cyc⟩ = ⟨⟨6, j, c, m, (wAt s.ws (s.c.cellP 0 c)), p, found, tail, cyc⟩, true, s.doIt (aLoad (s.c.cellP 0 c))⟩ := by simp [passM, passNext, hv]
      rw [e]
      exact pa5y H j c m a p tail cyc found _ rfl (hb _).1 (hb _).2 hv
    have e : passM s ⟨5, j, c, m, a, p, found, tail, cyc⟩ = ⟨⟨7, j, c, m, (wAt s.ws (s.c.cellP 0 c)), p, found, tail, cyc⟩, true, s.doIt (aLoad (s.c.cellP 0 c))⟩ := by simp [passM, passNext, hv]
    rw [e]
    exact pa5n H j c m a p tail cyc found _ rfl (hb _).1 (hb _).2 (by simpa using hv)
  by_cases k3 : line = 6
  · subst k3
    have e : passM s ⟨6, j, c, m, a, p, found, tail, cyc⟩ = ⟨⟨7, j, c, m, a, p, found, tail, cyc⟩, true, s.doIt (aCas (s.c.fieldP a 2) 0 1)⟩ := by simp [passM, passNext]
    rw [e]
    exact pa6 H j c m a p tail cyc found ha0 ha1
  by_cases k4 : line = 7
  · subst k4
    by_cases hv : isCell (wAt s.ws (s.c.cellP 1 c)) = true
    · have e : passM s ⟨7, j, c, m, a, p, found, tail, cyc⟩ = ⟨⟨8, j, c, m, (wAt s.ws (s.c.cellP 1 c)), p, found, tail, cyc⟩, true, s.doIt (aLoad (s.c.cellP 1 c))⟩ := by simp [passM, passNext, hv]
      rw [e]
      exact pa7y H j c m a p tail cyc found _ rfl (hb _).1 (hb _).2 hv
    have e : passM s ⟨7, j, c, m, a, p, found, tail, cyc⟩ = ⟨⟨9, j, c, m, (wAt s.ws (s.c.cellP 1 c)), p, found, tail, cyc⟩, true, s.doIt (aLoad (s.c.cellP 1 c))⟩ := by simp [passM, passNext, hv]
    rw [e]
    exact pa7n H j c m a p tail cyc found _ rfl (hb _).1 (hb _).2 (by simpa using hv)
  by_cases k5 : line = 8
  · subst k5
    have e : passM s ⟨8, j, c, m, a, p, found, tail, cyc⟩ = ⟨⟨9, j, c, m, a, p, found, tail, cyc⟩, true, s.doIt (aCas (s.c.fieldP a 2) 0 1)⟩ := by simp [passM, passNext]
    rw [e]
    exact pa8 H j c m a p tail cyc found ha0 ha1
  by_cases k6 : line = 9
  · subst k6
    by_cases hl : c + 1 < s.c.cells
    · have e : passM s ⟨9, j, c, m, a, p, found, tail, cyc⟩ = ⟨⟨4, j, c + 1, m, 0, p, true, tail, cyc⟩, true, s.doIt (aStore (s.c.cellP 2 c) 2)⟩ := by simp [passM, passNext, hl]
      rw [e]
      exact pa9m H j c m a p tail cyc found hc hl
    have e : passM s ⟨9, j, c, m, a, p, found, tail, cyc⟩ = ⟨⟨3, j, c + 1, m, 0, p, true, tail, cyc⟩, true, s.doIt (aStore (s.c.cellP 2 c) 2)⟩ := by simp [passM, passNext, hl]
    rw [e]
    exact pa9f H j c m a p tail cyc found hc (by omega)
  have e : passM s ⟨line, j, c, m, a, p, found, tail, cyc⟩ = ⟨⟨line, j, c, m, a, p, found, tail, cyc⟩, false, s⟩ := by simp [passM, k0, k1, k2, k3, k4, k5, k6]
  rw [e]
  exact pano H line j c m a p tail cyc found k0 k1 k2 k3 k4 k5 k6

end Go.Proofs.Ytolkgdchinaonaa
