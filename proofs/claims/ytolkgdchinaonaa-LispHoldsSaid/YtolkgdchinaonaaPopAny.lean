/- pop.Step and the document's, as one plain function. -/
import Derived.Test.YtolkgdchinaonaaPop
namespace Go.Proofs.Ytolkgdchinaonaa
open Go.RowKit
set_option linter.unusedVariables false
set_option linter.unusedSimpArgs false

theorem pop_any {w : World} {h ab db : Nat} {s : HS} (H : HAt w h ab db s) (x : MutV) (hx : x.Wf) :
    Calls Try.prog 186 #[.pointer (some ⟨h, 0, none⟩), x.val] w fun e w' => e = .returned (.tuple #[(popM s x).x.val, .bool (popM s x).lin, .bool (popM s x).is]) ∧ HAt w' h ab db (popM s x).s ∧ Fr [h, db] w w' := by
  have hc0 := hx.c.1
  have hc1 := hx.c.2
  have hn0 := hx.n.1
  have hn1 := hx.n.2
  obtain ⟨line, ok, oa, ob, oc, a, b, c, n, t, p, back, ret⟩ := x
  simp only at hc0 hc1 hn0 hn1
  clear hx
  unfold MutV.val
  by_cases k1 : line = 34
  · subst k1
    exact pop34 H ok oa ob oc a b c n t p back ret
  by_cases k2 : line = 35
  · subst k2
    by_cases hn : isCell (wAt s.ws (s.c.fieldP c 1)) = true
    · have e : popM s ⟨35, ok, oa, ob, oc, a, b, c, n, t, p, back, ret⟩ = ⟨⟨36, ok, oa, ob, oc, a, b, c, wAt s.ws (s.c.fieldP c 1), t, p, back, ret⟩, false, true, s.doIt (aLoad (s.c.fieldP c 1))⟩ := by simp [popM, hn]
      rw [e]
      exact pop35y H ok oa ob oc a b c n t p back ret hc0 hc1 hn
    · have e : popM s ⟨35, ok, oa, ob, oc, a, b, c, n, t, p, back, ret⟩ = ⟨⟨41, ok, oa, ob, oc, a, b, c, wAt s.ws (s.c.fieldP c 1), t, p, back, 5⟩, true, true, s.doIt (aLoad (s.c.fieldP c 1))⟩ := by simp [popM, hn]
      rw [e]
      exact pop35n H ok oa ob oc a b c n t p back ret hc0 hc1 (by simpa using hn)
  by_cases k3 : line = 36
  · subst k3
    by_cases hn : isCell n = true
    · have e : popM s ⟨36, ok, oa, ob, oc, a, b, c, n, t, p, back, ret⟩ = ⟨⟨80, ok, oa, ob, oc, a, b, c, n, t, n, 37, ret⟩, true, true, s.doIt (aStore 0 n)⟩ := by simp [popM, brBegin, hn]
      rw [e]
      exact pop36y H ok oa ob oc a b c n t p back ret hn0 hn1 hn
    · have e : popM s ⟨36, ok, oa, ob, oc, a, b, c, n, t, p, back, ret⟩ = ⟨⟨37, ok, oa, ob, oc, a, b, c, n, t, 0, 0, ret⟩, true, true, s.doIt (aStore 0 n)⟩ := by simp [popM, brBegin, hn]
      rw [e]
      exact pop36n H ok oa ob oc a b c n t p back ret hn0 hn1 (by simpa using hn)
  have e : popM s ⟨line, ok, oa, ob, oc, a, b, c, n, t, p, back, ret⟩ = ⟨⟨line, ok, oa, ob, oc, a, b, c, n, t, p, back, ret⟩, false, false, s⟩ := by simp [popM, k1, k2, k3]
  rw [e]
  exact popno H line ok oa ob oc a b c n t p back ret k1 k2 k3


end Go.Proofs.Ytolkgdchinaonaa
