/- What mutators have: the plain list. -/
import Derived.Test.YtolkgdchinaonaaHolds
import Derived.Test.YtolkgdchinaonaaMutsAt
namespace Go.Proofs.Ytolkgdchinaonaa
open Go.RowKit
set_option linter.unusedVariables false
set_option linter.unusedSimpArgs false

def heldT (x : MutV) : List Int := if x.line = 15 then [x.b] else []
def heldF (x : MutV) : List Int := if freL x.line x.back = true then [x.c] else []
/-- The temporaries and fresh cells of the first k. -/
def heldTo (l : List MutV) (k : Nat) : List Int := (l.take k).flatMap fun x => heldT x ++ heldF x
theorem heldTo_zero (l : List MutV) : heldTo l 0 = [] := by simp [heldTo]
theorem heldTo_succ {l : List MutV} {k : Nat} {x : MutV} (h : l[k]? = some x) : heldTo l (k + 1) = heldTo l k ++ heldT x ++ heldF x := by
  unfold heldTo
  rw [List.take_add_one, h]
  simp [List.flatMap_append]
theorem heldTo_len (l : List MutV) (k : Nat) : (heldTo l k).length ≤ 2 * k := by
  induction k with
  | zero => simp [heldTo]
  | succ k ih =>
    cases h : l[k]? with
    | none =>
      have : heldTo l (k + 1) = heldTo l k := by unfold heldTo; rw [List.take_add_one, h]; simp
      rw [this]; omega
    | some x =>
      rw [heldTo_succ h]
      have h1 : (heldT x).length ≤ 1 := by unfold heldT; split <;> simp
      have h2 : (heldF x).length ≤ 1 := by unfold heldF; split <;> simp
      simp only [List.length_append]; omega

end Go.Proofs.Ytolkgdchinaonaa
