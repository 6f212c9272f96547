/- A mutator as a plain record. -/
import Derived.Test.YtinafadacgloaaaHand
namespace Go.Proofs.Ytinafadacgloaaa
open Go.RowKit
set_option linter.unusedVariables false
set_option linter.unusedSimpArgs false

/-- A mutator. -/
structure MutV where
  line : Int
  ok : Int
  oa : Int
  ob : Int
  oc : Int
  a : Int
  b : Int
  c : Int
  n : Int
  t : Int
  p : Int
  back : Int
  ret : Int
  deriving DecidableEq

def MutV.cells (x : MutV) : List Value := [.int .i64 x.line, .int .i64 x.ok, .int .i64 x.oa, .int .i64 x.ob, .int .i64 x.oc, .int .u64 x.a, .int .u64 x.b, .int .u64 x.c, .int .u64 x.n, .int .u64 x.t, .int .u64 x.p, .int .i64 x.back, .int .i64 x.ret]
def MutV.val (x : MutV) : Value := .agg #[.int .i64 x.line, .int .i64 x.ok, .int .i64 x.oa, .int .i64 x.ob, .int .i64 x.oc, .int .u64 x.a, .int .u64 x.b, .int .u64 x.c, .int .u64 x.n, .int .u64 x.t, .int .u64 x.p, .int .i64 x.back, .int .i64 x.ret]

structure MutV.Wf (x : MutV) : Prop where
  line : -9223372036854775808 ≤ x.line ∧ x.line ≤ 9223372036854775807
  ok : -9223372036854775808 ≤ x.ok ∧ x.ok ≤ 9223372036854775807
  oa : -9223372036854775808 ≤ x.oa ∧ x.oa ≤ 9223372036854775807
  ob : -9223372036854775808 ≤ x.ob ∧ x.ob ≤ 9223372036854775807
  oc : -9223372036854775808 ≤ x.oc ∧ x.oc ≤ 9223372036854775807
  a : 0 ≤ x.a ∧ x.a < 18446744073709551616
  b : 0 ≤ x.b ∧ x.b < 18446744073709551616
  c : 0 ≤ x.c ∧ x.c < 18446744073709551616
  n : 0 ≤ x.n ∧ x.n < 18446744073709551616
  t : 0 ≤ x.t ∧ x.t < 18446744073709551616
  p : 0 ≤ x.p ∧ x.p < 18446744073709551616
  back : -9223372036854775808 ≤ x.back ∧ x.back ≤ 9223372036854775807
  ret : -9223372036854775808 ≤ x.ret ∧ x.ret ≤ 9223372036854775807

structure MutR where
  x : MutV
  is : Bool
  s : HS


theorem MutV.val_eq (x : MutV) : x.val = .agg #[.int .i64 x.line, .int .i64 x.ok, .int .i64 x.oa, .int .i64 x.ob, .int .i64 x.oc, .int .u64 x.a, .int .u64 x.b, .int .u64 x.c, .int .u64 x.n, .int .u64 x.t, .int .u64 x.p, .int .i64 x.back, .int .i64 x.ret] := rfl

end Go.Proofs.Ytinafadacgloaaa
