/- mudlarkref10: Begin, Step line by line. -/
import Derived.Test.YteggckdgjecfmaaRefHand
import Derived.Test.YteggckdgjecfmaaRefAt
import Derived.Test.YteggckdgjecfmaaBarrier
namespace Go.Proofs.Yteggckdgjecfmaa
open Go.RowKit
set_option linter.unusedVariables false
set_option linter.unusedSimpArgs false

theorem RAt.field {w : World} {r rd cap : Nat} {ext : List Value} {s : HS} (H : RAt w r rd cap ext s) (x p : Int) (h0 : 0 ≤ x) (h1 : x < 18446744073709551616) :
    Calls Try.prog 145 #[.pointer (some ⟨r, 0, none⟩), .int .u64 x, .int .i64 p] w fun e w' => e = .returned (.int .i64 (s.c.fieldP x p)) ∧ Fr [] w w' := rField_any H.right H.blk x p h0 h1



end Go.Proofs.Yteggckdgjecfmaa
