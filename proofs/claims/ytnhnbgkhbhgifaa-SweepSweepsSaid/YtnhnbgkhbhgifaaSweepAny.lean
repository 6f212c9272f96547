/- sweep.Step and the document's, as one plain function. -/
import Derived.Test.YtnhnbgkhbhgifaaPlain
import Derived.Test.YtnhnbgkhbhgifaaSweep
import Derived.Test.YtnhnbgkhbhgifaaNear
namespace Go.Proofs.Ytnhnbgkhbhgifaa
open Go.RowKit
set_option linter.unusedVariables false
set_option linter.unusedSimpArgs false


theorem sw_any {w : World} {h ab db : Nat} {s : HS} (H : HAt w h ab db s) (x : ColV) (hx : x.Wf) (hn : x.Near) :
    Calls Try.prog 34 #[.pointer (some ⟨h, 0, none⟩), x.val] w fun e w' => e = .returned (.tuple #[(swM s x).x.val, .int .i64 (swM s x).what, .bool (swM s x).is]) ∧ HAt w' h ab db (swM s x).s ∧ Fr [h, db] w w' := by
  have hc := hn.c
  have hy := hn.cyc
  have ht := hn.tail
  obtain ⟨line, j, c, m, a, p, found, tail, cyc⟩ := x
  simp only at hc hy ht
  clear hx hn
  unfold ColV.val
  by_cases k1 : line = 20
  · subst k1
    by_cases hw : wAt s.ws (s.c.cellP 2 c) = 0
    · have e : swM s ⟨20, j, c, m, a, p, found, tail, cyc⟩ = ⟨⟨21, j, c, m, a, p, found, tail, cyc⟩, 0, true, s.doIt (aLoad (s.c.cellP 2 c))⟩ := by simp [swM, hw]
      rw [e]
      exact sw20w H j c m a p tail cyc found hc hy ht hw
    · by_cases hw2 : wAt s.ws (s.c.cellP 2 c) = 2
      · have e : swM s ⟨20, j, c, m, a, p, found, tail, cyc⟩ = ⟨⟨24, j, c, m, a, p, found, tail, cyc⟩, 0, true, s.doIt (aLoad (s.c.cellP 2 c))⟩ := by simp [swM, hw2]
        rw [e]
        exact sw20b H j c m a p tail cyc found hc hy ht hw2
      · by_cases hl : c + 1 < s.c.cells
        · have e : swM s ⟨20, j, c, m, a, p, found, tail, cyc⟩ = ⟨⟨20, j, c + 1, m, a, p, found, tail, cyc⟩, 0, true, s.doIt (aLoad (s.c.cellP 2 c))⟩ := by simp [swM, swNext, hw, hw2, hl]
          rw [e]
          exact sw20ga H j c m a p tail cyc found hc hy ht hw hw2 hl
        · have e : swM s ⟨20, j, c, m, a, p, found, tail, cyc⟩ = ⟨⟨1, 0, c + 1, m, a, 0, found, tail, cyc + 1⟩, 3, true, s.doIt (aLoad (s.c.cellP 2 c))⟩ := by simp [swM, swNext, hw, hw2, hl]
          rw [e]
          exact sw20gb H j c m a p tail cyc found hc hy ht hw hw2 hl
  by_cases k2 : line = 21
  · subst k2
    exact sw21 H j c m a p tail cyc found hc hy ht
  by_cases k3 : line = 22
  · subst k3
    exact sw22 H j c m a p tail cyc found hc hy ht
  by_cases k4 : line = 23
  · subst k4
    by_cases hl : c + 1 < s.c.cells
    · have e : swM s ⟨23, j, c, m, a, p, found, tail, cyc⟩ = ⟨⟨20, j, c + 1, m, a, p, found, c, cyc⟩, 2, true, s.doIt (aStore (s.c.cellP 1 tail) (cellW c))⟩ := by simp [swM, swNext, hl]
      rw [e]
      exact sw23a H j c m a p tail cyc found hc hy ht hl
    · have e : swM s ⟨23, j, c, m, a, p, found, tail, cyc⟩ = ⟨⟨1, 0, c + 1, m, a, 0, found, c, cyc + 1⟩, 5, true, s.doIt (aStore (s.c.cellP 1 tail) (cellW c))⟩ := by simp [swM, swNext, hl]
      rw [e]
      exact sw23b H j c m a p tail cyc found hc hy ht hl
  by_cases k5 : line = 24
  · subst k5
    by_cases hl : c + 1 < s.c.cells
    · have e : swM s ⟨24, j, c, m, a, p, found, tail, cyc⟩ = ⟨⟨20, j, c + 1, m, a, p, found, tail, cyc⟩, 0, true, s.doIt (aStore (s.c.cellP 2 c) 0)⟩ := by simp [swM, swNext, hl]
      rw [e]
      exact sw24a H j c m a p tail cyc found hc hy ht hl
    · have e : swM s ⟨24, j, c, m, a, p, found, tail, cyc⟩ = ⟨⟨1, 0, c + 1, m, a, 0, found, tail, cyc + 1⟩, 3, true, s.doIt (aStore (s.c.cellP 2 c) 0)⟩ := by simp [swM, swNext, hl]
      rw [e]
      exact sw24b H j c m a p tail cyc found hc hy ht hl
  have e : swM s ⟨line, j, c, m, a, p, found, tail, cyc⟩ = ⟨⟨line, j, c, m, a, p, found, tail, cyc⟩, 0, false, s⟩ := by simp [swM, k1, k2, k3, k4, k5]
  rw [e]
  exact swno H line j c m a p tail cyc found k1 k2 k3 k4 k5


end Go.Proofs.Ytnhnbgkhbhgifaa
