/- gate.Begin, gate.Inside. -/
import Derived.Test.YtolkgdchinaonaaGate
namespace Go.Proofs.Ytolkgdchinaonaa
open Go.RowKit
set_option linter.unusedVariables false
set_option linter.unusedSimpArgs false

theorem gbegin_any (ok oa ob oc : Int) (w : World) : Calls Try.prog 40 #[.agg #[.int .i64 ok, .int .i64 oa, .int .i64 ob, .int .i64 oc]] w fun e w' => e = .returned (.agg #[.int .i64 1, .int .i64 ok, .int .i64 oa, .int .i64 ob, .int .i64 oc, .int .u64 0, .int .u64 0, .int .u64 0, .int .u64 0, .int .u64 0, .int .u64 0, .int .i64 0, .int .i64 0]) ∧ Fr [] w w' := by
  go_enter Try.func40, Try.ntmps40
  go_wp2
  exact bodyPost_ret (v := .agg #[.int .i64 1, .int .i64 ok, .int .i64 oa, .int .i64 ob, .int .i64 oc, .int .u64 0, .int .u64 0, .int .u64 0, .int .u64 0, .int .u64 0, .int .u64 0, .int .i64 0, .int .i64 0]) (by simp [results, Try.results40, go_sem]) rfl ⟨rfl, ((Fr.refl _ _).alloc _).alloc _⟩
theorem gsays_any (u : Int) (w : World) (h0 : 0 ≤ u) (h1 : u < 18446744073709551616) : Calls Try.prog 43 #[.int .u64 u] w fun e w' => e = .returned (.int .u64 (u % 4)) ∧ w = w' := by
  have h2 : IntKind.u64.wrap (u % 4) = u % 4 := by show (u % 4) % 18446744073709551616 = u % 4; omega
  go_enter Try.func43, Try.ntmps43
  go_wp2
  go_ret
  exact ⟨rfl, rfl⟩
theorem inside_any (line ok oa ob oc a b c n t p back ret : Int) (w : World) : Calls Try.prog 42 #[.agg #[.int .i64 line, .int .i64 ok, .int .i64 oa, .int .i64 ob, .int .i64 oc, .int .u64 a, .int .u64 b, .int .u64 c, .int .u64 n, .int .u64 t, .int .u64 p, .int .i64 back, .int .i64 ret]] w fun e w' => e = .returned (.bool (insideB line)) ∧ Fr [] w w' := by
  by_cases h3 : line = 3
  · subst h3
    rw [show insideB 3 = true from rfl]
    go_enter Try.func42, Try.ntmps42
    go_wp2
    go_ret
    exact ⟨rfl, (Fr.refl _ _).alloc _⟩
  · have b3 : (line == 3) = false := beq_eq_false_iff_ne.2 h3
    rw [show insideB line = decide (5 < line) by unfold insideB; rw [b3]; rfl]
    clear h3
    go_enter Try.func42, Try.ntmps42
    go_wp2
    go_ret
    exact ⟨rfl, (Fr.refl _ _).alloc _⟩

end Go.Proofs.Ytolkgdchinaonaa
