/- Both steps of the ticket lock as one plain function of the words and the mutator. -/
import Derived.Test.YtciojmdppfgelaaTicket
import Derived.Test.YtciojmdppfgelaaTicket2
import Derived.Test.YtciojmdppfgelaaTicket3
namespace Go.Proofs.Ytciojmdppfgelaa
open Go.RowKit
set_option linter.unusedVariables false
set_option linter.unusedSimpArgs false

/-- A mutator. -/
structure MutV where
  line : Int
  ok : Int
  oa : Int
  ob : Int
  oc : Int
  a : Int
  b : Int
  c : Int
  n : Int
  t : Int
  p : Int
  back : Int
  ret : Int
  deriving DecidableEq

def MutV.cells (x : MutV) : List Value := [.int .i64 x.line, .int .i64 x.ok, .int .i64 x.oa, .int .i64 x.ob, .int .i64 x.oc, .int .u64 x.a, .int .u64 x.b, .int .u64 x.c, .int .u64 x.n, .int .u64 x.t, .int .u64 x.p, .int .i64 x.back, .int .i64 x.ret]
def MutV.val (x : MutV) : Value := .agg #[.int .i64 x.line, .int .i64 x.ok, .int .i64 x.oa, .int .i64 x.ob, .int .i64 x.oc, .int .u64 x.a, .int .u64 x.b, .int .u64 x.c, .int .u64 x.n, .int .u64 x.t, .int .u64 x.p, .int .i64 x.back, .int .i64 x.ret]

structure MutV.Wf (x : MutV) : Prop where
  line : -9223372036854775808 ≤ x.line ∧ x.line ≤ 9223372036854775807
  ok : -9223372036854775808 ≤ x.ok ∧ x.ok ≤ 9223372036854775807
  oa : -9223372036854775808 ≤ x.oa ∧ x.oa ≤ 9223372036854775807
  ob : -9223372036854775808 ≤ x.ob ∧ x.ob ≤ 9223372036854775807
  oc : -9223372036854775808 ≤ x.oc ∧ x.oc ≤ 9223372036854775807
  a : 0 ≤ x.a ∧ x.a < 18446744073709551616
  b : 0 ≤ x.b ∧ x.b < 18446744073709551616
  c : 0 ≤ x.c ∧ x.c < 18446744073709551616
  n : 0 ≤ x.n ∧ x.n < 18446744073709551616
  t : 0 ≤ x.t ∧ x.t < 18446744073709551616
  p : 0 ≤ x.p ∧ x.p < 18446744073709551616
  back : -9223372036854775808 ≤ x.back ∧ x.back ≤ 9223372036854775807
  ret : -9223372036854775808 ≤ x.ret ∧ x.ret ≤ 9223372036854775807

structure MutR where
  x : MutV
  is : Bool
  s : HS

def tkM (s : HS) (x : MutV) : MutR :=
  if x.line = 32 then ⟨{ x with line := 33, t := wAt s.ws 3 }, true, s.doIt (aAdd 3 1)⟩
  else if x.line = 33 then (if wAt s.ws 4 = x.t then ⟨{ x with line := 34 }, true, s.doIt (aLoad 4)⟩ else ⟨x, true, s.doIt (aLoad 4)⟩)
  else if x.line = 37 then ⟨{ x with line := 38 }, true, s.doIt (aAdd 4 1)⟩
  else if x.line = 41 then ⟨{ x with line := 90 }, true, s.doIt (aAdd 4 1)⟩
  else ⟨x, false, s⟩

theorem tk_any {w : World} {h ab db : Nat} {s : HS} (H : HAt w h ab db s) (x : MutV) :
    Calls Try.prog 37 #[.pointer (some ⟨h, 0, none⟩), x.val] w fun e w' => e = .returned (.tuple #[(tkM s x).x.val, .bool (tkM s x).is]) ∧ HAt w' h ab db (tkM s x).s ∧ Fr [h, db] w w' := by
  obtain ⟨line, ok, oa, ob, oc, a, b, c, n, t, p, back, ret⟩ := x
  unfold MutV.val
  by_cases k1 : line = 32
  · subst k1
    exact tk32 H ok oa ob oc a b c n t p back ret
  by_cases k2 : line = 33
  · subst k2
    by_cases ht : wAt s.ws 4 = t
    · have e : tkM s ⟨33, ok, oa, ob, oc, a, b, c, n, t, p, back, ret⟩ = ⟨⟨34, ok, oa, ob, oc, a, b, c, n, t, p, back, ret⟩, true, s.doIt (aLoad 4)⟩ := by simp [tkM, ht]
      rw [e]
      subst ht
      exact tk33y H ok oa ob oc a b c n p back ret
    · have e : tkM s ⟨33, ok, oa, ob, oc, a, b, c, n, t, p, back, ret⟩ = ⟨⟨33, ok, oa, ob, oc, a, b, c, n, t, p, back, ret⟩, true, s.doIt (aLoad 4)⟩ := by simp [tkM, ht]
      rw [e]
      exact tk33n H ok oa ob oc a b c n t p back ret ht
  by_cases k3 : line = 37
  · subst k3
    exact tk37 H ok oa ob oc a b c n t p back ret
  by_cases k4 : line = 41
  · subst k4
    exact tk41 H ok oa ob oc a b c n t p back ret
  have e : tkM s ⟨line, ok, oa, ob, oc, a, b, c, n, t, p, back, ret⟩ = ⟨⟨line, ok, oa, ob, oc, a, b, c, n, t, p, back, ret⟩, false, s⟩ := by simp [tkM, k1, k2, k3, k4]
  rw [e]
  exact tkno H line ok oa ob oc a b c n t p back ret k1 k2 k3 k4

theorem rtk_any {w : World} {r rd cap : Nat} {ext : List Value} {s : HS} (H : RAt w r rd cap ext s) (x : MutV) :
    Calls Try.prog 46 #[.pointer (some ⟨r, 0, none⟩), x.val] w fun e w' => e = .returned (.tuple #[(tkM s x).x.val, .bool (tkM s x).is]) ∧ RAt w' r rd cap ext (tkM s x).s ∧ Fr [r, rd] w w' := by
  obtain ⟨line, ok, oa, ob, oc, a, b, c, n, t, p, back, ret⟩ := x
  unfold MutV.val
  by_cases k1 : line = 32
  · subst k1
    exact rtk32 H ok oa ob oc a b c n t p back ret
  by_cases k2 : line = 33
  · subst k2
    by_cases ht : wAt s.ws 4 = t
    · have e : tkM s ⟨33, ok, oa, ob, oc, a, b, c, n, t, p, back, ret⟩ = ⟨⟨34, ok, oa, ob, oc, a, b, c, n, t, p, back, ret⟩, true, s.doIt (aLoad 4)⟩ := by simp [tkM, ht]
      rw [e]
      subst ht
      exact rtk33y H ok oa ob oc a b c n p back ret
    · have e : tkM s ⟨33, ok, oa, ob, oc, a, b, c, n, t, p, back, ret⟩ = ⟨⟨33, ok, oa, ob, oc, a, b, c, n, t, p, back, ret⟩, true, s.doIt (aLoad 4)⟩ := by simp [tkM, ht]
      rw [e]
      exact rtk33n H ok oa ob oc a b c n t p back ret ht
  by_cases k3 : line = 37
  · subst k3
    exact rtk37 H ok oa ob oc a b c n t p back ret
  by_cases k4 : line = 41
  · subst k4
    exact rtk41 H ok oa ob oc a b c n t p back ret
  have e : tkM s ⟨line, ok, oa, ob, oc, a, b, c, n, t, p, back, ret⟩ = ⟨⟨line, ok, oa, ob, oc, a, b, c, n, t, p, back, ret⟩, false, s⟩ := by simp [tkM, k1, k2, k3, k4]
  rw [e]
  exact rtkno H line ok oa ob oc a b c n t p back ret k1 k2 k3 k4

end Go.Proofs.Ytciojmdppfgelaa
