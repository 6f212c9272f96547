/- Both steps of the ticket lock as one plain function of the words and the mutator. -/
import Derived.Test.YtolkgdchinaonaaPlain
import Derived.Test.YtolkgdchinaonaaMutV
import Derived.Test.YtolkgdchinaonaaTicket
import Derived.Test.YtolkgdchinaonaaTicket3
namespace Go.Proofs.Ytolkgdchinaonaa
open Go.RowKit
set_option linter.unusedVariables false
set_option linter.unusedSimpArgs false


theorem tk_any {w : World} {h ab db : Nat} {s : HS} (H : HAt w h ab db s) (x : MutV) :
    Calls Try.prog 35 #[.pointer (some ⟨h, 0, none⟩), x.val] w fun e w' => e = .returned (.tuple #[(tkM s x).x.val, .bool (tkM s x).is]) ∧ HAt w' h ab db (tkM s x).s ∧ Fr [h, db] w w' := by
  obtain ⟨line, ok, oa, ob, oc, a, b, c, n, t, p, back, ret⟩ := x
  unfold MutV.val
  by_cases k1 : line = 32
  · subst k1
    exact tk32 H ok oa ob oc a b c n t p back ret
  by_cases k2 : line = 33
  · subst k2
    by_cases ht : wAt s.ws 4 = t
    · have e : tkM s ⟨33, ok, oa, ob, oc, a, b, c, n, t, p, back, ret⟩ = ⟨⟨34, ok, oa, ob, oc, a, b, c, n, t, p, back, ret⟩, true, s.doIt (aLoad 4)⟩ := by simp [tkM, ht]
      rw [e]
      subst ht
      exact tk33y H ok oa ob oc a b c n p back ret
    · have e : tkM s ⟨33, ok, oa, ob, oc, a, b, c, n, t, p, back, ret⟩ = ⟨⟨33, ok, oa, ob, oc, a, b, c, n, t, p, back, ret⟩, true, s.doIt (aLoad 4)⟩ := by simp [tkM, ht]
      rw [e]
      exact tk33n H ok oa ob oc a b c n t p back ret ht
  by_cases k3 : line = 37
  · subst k3
    exact tk37 H ok oa ob oc a b c n t p back ret
  by_cases k4 : line = 41
  · subst k4
    exact tk41 H ok oa ob oc a b c n t p back ret
  have e : tkM s ⟨line, ok, oa, ob, oc, a, b, c, n, t, p, back, ret⟩ = ⟨⟨line, ok, oa, ob, oc, a, b, c, n, t, p, back, ret⟩, false, s⟩ := by simp [tkM, k1, k2, k3, k4]
  rw [e]
  exact tkno H line ok oa ob oc a b c n t p back ret k1 k2 k3 k4


end Go.Proofs.Ytolkgdchinaonaa
