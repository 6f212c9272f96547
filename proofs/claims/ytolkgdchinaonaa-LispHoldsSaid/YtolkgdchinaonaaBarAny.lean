/- barrier.Step and the document's, as one plain function. -/
import Derived.Test.YtolkgdchinaonaaBarrier
namespace Go.Proofs.Ytolkgdchinaonaa
open Go.RowKit
set_option linter.unusedVariables false
set_option linter.unusedSimpArgs false

theorem br_any {w : World} {h ab db : Nat} {s : HS} (H : HAt w h ab db s) (x : MutV) (hx : x.Wf) :
    Calls Try.prog 187 #[.pointer (some ⟨h, 0, none⟩), x.val] w fun e w' => e = .returned (.tuple #[(brM s x).x.val, .bool (brM s x).is]) ∧ HAt w' h ab db (brM s x).s ∧ Fr [h, db] w w' := by
  have hp0 := hx.p.1
  have hp1 := hx.p.2
  obtain ⟨line, ok, oa, ob, oc, a, b, c, n, t, p, back, ret⟩ := x
  simp only at hp0 hp1
  clear hx
  unfold MutV.val
  by_cases k1 : line = 80
  · subst k1
    by_cases hw : s.won (s.c.fieldP p 2) 0 = true
    · have e : brM s ⟨80, ok, oa, ob, oc, a, b, c, n, t, p, back, ret⟩ = ⟨⟨81, ok, oa, ob, oc, a, b, c, n, t, 0, back, ret⟩, true, s.doIt (aCas (s.c.fieldP p 2) 0 1)⟩ := by simp [brM, hw]
      rw [e]
      exact br80y H ok oa ob oc a b c n t p back ret hp0 hp1 hw
    · have hw : s.won (s.c.fieldP p 2) 0 = false := by simpa using hw
      have e : brM s ⟨80, ok, oa, ob, oc, a, b, c, n, t, p, back, ret⟩ = ⟨⟨back, ok, oa, ob, oc, a, b, c, n, t, 0, 0, ret⟩, true, s.doIt (aCas (s.c.fieldP p 2) 0 1)⟩ := by simp [brM, brOn, hw]
      rw [e]
      exact br80n H ok oa ob oc a b c n t p back ret hp0 hp1 hw
  by_cases k2 : line = 81
  · subst k2
    exact br81 H ok oa ob oc a b c n t p back ret
  have e : brM s ⟨line, ok, oa, ob, oc, a, b, c, n, t, p, back, ret⟩ = ⟨⟨line, ok, oa, ob, oc, a, b, c, n, t, p, back, ret⟩, false, s⟩ := by simp [brM, k1, k2]
  rw [e]
  exact brno H line ok oa ob oc a b c n t p back ret k1 k2


end Go.Proofs.Ytolkgdchinaonaa
