/- Rounds in which the collector shuts and opens, and each mutator gets in and out: the plain law. No program is named here. -/
import Derived.Test.YtolkgdchinaonaaBarKP
namespace Go.Proofs.Ytolkgdchinaonaa
open Go.RowKit
set_option linter.unusedVariables false
set_option linter.unusedSimpArgs false

structure BoS where
  s : HS
  A : List MutV
  got : List Int
  x : ColV
  shut : Int
/-- One pick: of mutator m, of the collector where m = k. -/
def boCol (st : BoS) : BoS :=
  if st.x.line = 3 ∨ st.x.line = 20 then ⟨(barM st.s { st.x with line := 10, m := 0 }).s, st.A, st.got, (barM st.s { st.x with line := 10, m := 0 }).x, st.shut + 1⟩
  else ⟨(barM st.s st.x).s, st.A, st.got, (barM st.s st.x).x, st.shut⟩
def boMut (m : Nat) (st : BoS) : BoS :=
  let y := st.A.getD m (mv 0 0)
  if y.line = 0 then ⟨(gateM st.s m (mv 1 11)).s, st.A.set m (gateM st.s m (mv 1 11)).x, st.got, st.x, st.shut⟩
  else if y.line = 24 then ⟨(gateM st.s m { y with line := 90 }).s, st.A.set m (gateM st.s m { y with line := 90 }).x, st.got.set m (st.got.getD m 0 + 1), st.x, st.shut⟩
  else ⟨(gateM st.s m y).s, st.A.set m (gateM st.s m y).x, st.got, st.x, st.shut⟩
def boStep (k m : Nat) (st : BoS) : BoS := if m = k then boCol st else boMut m st
/-- The first n picks of a round that begins at r * f. -/
def boRound (k f r : Nat) : Nat → BoS → BoS
  | 0, st => st
  | i + 1, st => boStep k ((i + r * f) % (k + 1)) (boRound k f r i st)
def boRuns (k f : Nat) : Nat → BoS → BoS
  | 0, st => st
  | r + 1, st => boRound k f r (k + 1) (boRuns k f r st)
def boFirst (k : Nat) : BoS := ⟨⟨⟨2, k, 1, 0⟩, firstW ⟨2, k, 1, 0⟩, Acc.z⟩, List.replicate k (mv 0 0), List.replicate k 0, bc 10 0 0, 0⟩
def boOk (k f : Nat) : Bool := ((boRuns k f (60 + 40 * k) (boFirst k)).got.all fun g => decide (2 ≤ g)) && decide (1 ≤ (boRuns k f (60 + 40 * k) (boFirst k)).shut)
set_option maxRecDepth 1000000 in
theorem boOk1 : ((List.range 2).all fun f => boOk 1 f) = true := by decide +kernel
set_option maxRecDepth 1000000 in
theorem boOk2 : ((List.range 3).all fun f => boOk 2 f) = true := by decide +kernel
set_option maxRecDepth 1000000 in
theorem boOk3 : ((List.range 4).all fun f => boOk 3 f) = true := by decide +kernel
set_option maxRecDepth 1000000 in
theorem boOk4 : ((List.range 5).all fun f => boOk 4 f) = true := by decide +kernel
set_option maxRecDepth 1000000 in
theorem boOk5 : ((List.range 6).all fun f => boOk 5 f) = true := by decide +kernel

end Go.Proofs.Ytolkgdchinaonaa
