/- bar.Step and the document's, as one plain function. -/
import Derived.Test.YtolkgdchinaonaaBar
import Derived.Test.YtolkgdchinaonaaNear
namespace Go.Proofs.Ytolkgdchinaonaa
open Go.RowKit
set_option linter.unusedVariables false
set_option linter.unusedSimpArgs false

theorem hbd {w : World} {h ab db : Nat} {s : HS} (H : HAt w h ab db s) : ∀ i, 0 ≤ wAt s.ws i ∧ wAt s.ws i < 18446744073709551616 := fun i => H.ar.bd i
theorem ba_any {w : World} {h ab db : Nat} {s : HS} (H : HAt w h ab db s) (x : ColV) (hx : x.Wf) (hn : x.Near) :
    Calls Try.prog 53 #[.pointer (some ⟨h, 0, none⟩), x.val] w fun e w' => e = .returned (.tuple #[(barM s x).x.val, .bool (barM s x).flip, .bool (barM s x).is]) ∧ HAt w' h ab db (barM s x).s ∧ Fr [h, db] w w' := by
  have hm := hn.m
  have hb := hbd H
  obtain ⟨line, j, c, m, a, p, found, tail, cyc⟩ := x
  simp only at hm
  clear hx hn
  unfold ColV.val
  obtain ⟨u, hu⟩ : ∃ u, wAt s.ws (s.c.inP m) = u := ⟨_, rfl⟩
  obtain ⟨k, hk⟩ : ∃ k, u % 4 = k := ⟨_, rfl⟩
  obtain ⟨d, hd⟩ : ∃ d, wAt s.ws 2 = d := ⟨_, rfl⟩
  have hu0 := (hb (s.c.inP m)).1
  have hu1 := (hb (s.c.inP m)).2
  rw [hu] at hu0 hu1
  by_cases k1 : line = 10
  · subst k1
    by_cases z0 : k = 0
    · by_cases hl : s.c.muts ≤ m + 1
      · have e : barM s ⟨10, j, c, m, a, p, found, tail, cyc⟩ = ⟨⟨11, j, c, 0, 0, p, found, tail, cyc⟩, false, true, s.doIt (aLoad (s.c.inP m))⟩ := by simp [barM, barPass, hu, hk, z0, hl]
        rw [e]
        exact ba100o H j c m a p tail cyc found hm u k hu hk hu0 hu1 z0 hl
      · have e : barM s ⟨10, j, c, m, a, p, found, tail, cyc⟩ = ⟨⟨10, j, c, m + 1, 0, p, found, tail, cyc⟩, false, true, s.doIt (aLoad (s.c.inP m))⟩ := by simp [barM, barPass, hu, hk, z0, hl]
        rw [e]
        exact ba100m H j c m a p tail cyc found hm u k hu hk hu0 hu1 z0 (by omega)
    by_cases z2 : k = 2
    · by_cases hl : s.c.muts ≤ m + 1
      · have e : barM s ⟨10, j, c, m, a, p, found, tail, cyc⟩ = ⟨⟨11, j, c, 0, 0, p, found, tail, cyc⟩, false, true, s.doIt (aLoad (s.c.inP m))⟩ := by simp [barM, barPass, hu, hk, z2, hl]
        rw [e]
        exact ba102o H j c m a p tail cyc found hm u k hu hk hu0 hu1 z2 hl
      · have e : barM s ⟨10, j, c, m, a, p, found, tail, cyc⟩ = ⟨⟨10, j, c, m + 1, 0, p, found, tail, cyc⟩, false, true, s.doIt (aLoad (s.c.inP m))⟩ := by simp [barM, barPass, hu, hk, z2, hl]
        rw [e]
        exact ba102m H j c m a p tail cyc found hm u k hu hk hu0 hu1 z2 (by omega)
    have e : barM s ⟨10, j, c, m, a, p, found, tail, cyc⟩ = ⟨⟨16, j, c, m, u, p, found, tail, cyc⟩, false, true, s.doIt (aLoad (s.c.inP m))⟩ := by simp [barM, hu, hk, z0, z2]
    rw [e]
    exact ba10n H j c m a p tail cyc found hm u k hu hk hu0 hu1 (by simpa using z0) (by simpa using z2)
  by_cases k2 : line = 16
  · subst k2
    by_cases ha : u = a
    · have e : barM s ⟨16, j, c, m, a, p, found, tail, cyc⟩ = ⟨⟨16, j, c, m, a, p, found, tail, cyc⟩, false, true, s.doIt (aLoad (s.c.inP m))⟩ := by simp [barM, hu, ha]
      rw [e]
      exact ba16s H j c m a p tail cyc found hm u k hu hk hu0 hu1 (by simpa using ha)
    by_cases z3 : k = 3
    · have e : barM s ⟨16, j, c, m, a, p, found, tail, cyc⟩ = ⟨⟨16, j, c, m, u, p, found, tail, cyc⟩, false, true, s.doIt (aLoad (s.c.inP m))⟩ := by simp [barM, hu, hk, ha, z3]
      rw [e]
      exact ba16w H j c m a p tail cyc found hm u k hu hk hu0 hu1 (by simpa using ha) (by simpa using z3)
    by_cases hl : s.c.muts ≤ m + 1
    · have e : barM s ⟨16, j, c, m, a, p, found, tail, cyc⟩ = ⟨⟨11, j, c, 0, 0, p, found, tail, cyc⟩, false, true, s.doIt (aLoad (s.c.inP m))⟩ := by simp [barM, barPass, hu, hk, ha, z3, hl]
      rw [e]
      exact ba16o H j c m a p tail cyc found hm u k hu hk hu0 hu1 (by simpa using ha) (by simpa using z3) hl
    · have e : barM s ⟨16, j, c, m, a, p, found, tail, cyc⟩ = ⟨⟨10, j, c, m + 1, 0, p, found, tail, cyc⟩, false, true, s.doIt (aLoad (s.c.inP m))⟩ := by simp [barM, barPass, hu, hk, ha, z3, hl]
      rw [e]
      exact ba16m H j c m a p tail cyc found hm u k hu hk hu0 hu1 (by simpa using ha) (by simpa using z3) (by omega)
  by_cases k3 : line = 11
  · subst k3
    have e : barM s ⟨11, j, c, m, a, p, found, tail, cyc⟩ = ⟨⟨12, j, c, m, a, p, found, tail, cyc⟩, false, true, s.doIt (aStore 1 1)⟩ := by simp [barM]
    rw [e]
    exact ba11 H j c m a p tail cyc found
  by_cases k4 : line = 12
  · subst k4
    by_cases z0 : k = 0
    · by_cases hl : s.c.muts ≤ m + 1
      · have e : barM s ⟨12, j, c, m, a, p, found, tail, cyc⟩ = ⟨⟨13, j, c, 0, a, p, found, tail, cyc⟩, false, true, s.doIt (aLoad (s.c.inP m))⟩ := by simp [barM, barPass, hu, hk, z0, hl]
        rw [e]
        exact ba120o H j c m a p tail cyc found hm u k hu hk hu0 hu1 (by simpa using z0) hl
      · have e : barM s ⟨12, j, c, m, a, p, found, tail, cyc⟩ = ⟨⟨12, j, c, m + 1, a, p, found, tail, cyc⟩, false, true, s.doIt (aLoad (s.c.inP m))⟩ := by simp [barM, barPass, hu, hk, z0, hl]
        rw [e]
        exact ba120m H j c m a p tail cyc found hm u k hu hk hu0 hu1 (by simpa using z0) (by omega)
    by_cases z3 : k = 3
    · by_cases hl : s.c.muts ≤ m + 1
      · have e : barM s ⟨12, j, c, m, a, p, found, tail, cyc⟩ = ⟨⟨13, j, c, 0, a, p, found, tail, cyc⟩, false, true, s.doIt (aLoad (s.c.inP m))⟩ := by simp [barM, barPass, hu, hk, z3, hl]
        rw [e]
        exact ba123o H j c m a p tail cyc found hm u k hu hk hu0 hu1 (by simpa using z0) (by simpa using z3) hl
      · have e : barM s ⟨12, j, c, m, a, p, found, tail, cyc⟩ = ⟨⟨12, j, c, m + 1, a, p, found, tail, cyc⟩, false, true, s.doIt (aLoad (s.c.inP m))⟩ := by simp [barM, barPass, hu, hk, z3, hl]
        rw [e]
        exact ba123m H j c m a p tail cyc found hm u k hu hk hu0 hu1 (by simpa using z0) (by simpa using z3) (by omega)
    have e : barM s ⟨12, j, c, m, a, p, found, tail, cyc⟩ = ⟨⟨12, j, c, m, a, p, found, tail, cyc⟩, false, true, s.doIt (aLoad (s.c.inP m))⟩ := by simp [barM, hu, hk, z0, z3]
    rw [e]
    exact ba12n H j c m a p tail cyc found hm u k hu hk hu0 hu1 (by simpa using z0) (by simpa using z3)
  by_cases k5 : line = 13
  · subst k5
    by_cases h0 : d = 0
    · have e : barM s ⟨13, j, c, m, a, p, found, tail, cyc⟩ = ⟨⟨14, j, c, m, a, p, found, tail, cyc⟩, true, true, s.doIt (aLoad 2)⟩ := by simp [barM, hd, h0]
      rw [e]
      exact ba13y H j c m a p tail cyc found d hd (by simpa using h0)
    · have e : barM s ⟨13, j, c, m, a, p, found, tail, cyc⟩ = ⟨⟨15, j, c, m, a, p, found, tail, cyc⟩, false, true, s.doIt (aLoad 2)⟩ := by simp [barM, hd, h0]
      rw [e]
      exact ba13n H j c m a p tail cyc found d hd (by simpa using h0)
  by_cases k6 : line = 14
  · subst k6
    have e : barM s ⟨14, j, c, m, a, p, found, tail, cyc⟩ = ⟨⟨20, j, 0, m, a, p, found, tail, cyc⟩, false, true, s.doIt (aStore 1 0)⟩ := by simp [barM]
    rw [e]
    exact ba14 H j c m a p tail cyc found
  by_cases k7 : line = 15
  · subst k7
    have e : barM s ⟨15, j, c, m, a, p, found, tail, cyc⟩ = ⟨⟨3, j, c, m, a, p, found, tail, cyc⟩, false, true, s.doIt (aStore 1 0)⟩ := by simp [barM]
    rw [e]
    exact ba15 H j c m a p tail cyc found
  have e : barM s ⟨line, j, c, m, a, p, found, tail, cyc⟩ = ⟨⟨line, j, c, m, a, p, found, tail, cyc⟩, false, false, s⟩ := by simp [barM, k1, k2, k3, k4, k5, k6, k7]
  rw [e]
  exact bano H line j c m a p tail cyc found k1 k2 k3 k4 k5 k6 k7

end Go.Proofs.Ytolkgdchinaonaa
