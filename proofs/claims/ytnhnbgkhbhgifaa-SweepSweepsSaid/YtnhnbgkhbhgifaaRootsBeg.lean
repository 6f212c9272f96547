/- roots.Begin, Scanned; mudlarkref15.Scanned. -/
import Derived.Test.YtnhnbgkhbhgifaaPlain
import Derived.Test.YtnhnbgkhbhgifaaColV
namespace Go.Proofs.Ytnhnbgkhbhgifaa
open Go.RowKit
set_option linter.unusedVariables false
set_option linter.unusedSimpArgs false


theorem rbegin15_any (line j c m a p tail cyc : Int) (found : Bool) (w : World) :
    Calls Try.prog 108 #[.agg #[.int .i64 line, .int .i64 j, .int .i64 c, .int .i64 m, .int .u64 a, .int .u64 p, .bool found, .int .i64 tail, .int .i64 cyc]] w fun e w' => e = .returned (.agg #[.int .i64 1, .int .i64 0, .int .i64 c, .int .i64 m, .int .u64 a, .int .u64 0, .bool found, .int .i64 tail, .int .i64 cyc]) ∧ Fr [] w w' := by
  go_enter Try.func108, Try.ntmps108
  go_wp2
  exact bodyPost_ret (v := .agg #[.int .i64 1, .int .i64 0, .int .i64 c, .int .i64 m, .int .u64 a, .int .u64 0, .bool found, .int .i64 tail, .int .i64 cyc]) (by simp [results, Try.results108, go_sem]) rfl ⟨rfl, by repeat (first | with_reducible exact (Fr.refl [] w).alloc _ | with_reducible exact ((Fr.refl [] w).alloc _).alloc _ | with_reducible refine Fr.setNew ?_ (Nat.le_refl _) _ | with_reducible refine Fr.setNew ?_ (Nat.le_succ _) _)⟩



end Go.Proofs.Ytnhnbgkhbhgifaa
