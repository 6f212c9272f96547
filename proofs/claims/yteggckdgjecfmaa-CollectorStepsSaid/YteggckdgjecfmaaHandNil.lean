/- What a nil hand does: nothing. -/
import Derived.Test.YteggckdgjecfmaaHandNew
namespace Go.Proofs.Yteggckdgjecfmaa
open Go.RowKit
set_option linter.unusedVariables false
set_option linter.unusedSimpArgs false

theorem hload_nil (i : Int) (w : World) : Calls Try.prog 87 #[.pointer none, .int .i64 i] w fun e w' => e = .returned (.int .u64 0) ∧ Fr [] w w' := by
  go_enter Try.func87, Try.ntmps87
  go_wp2
  go_ret
  exact ⟨rfl, by repeat (first | exact Fr.refl _ _ | refine Fr.alloc ?_ _)⟩
theorem hstore_nil (i x : Int) (w : World) : Calls Try.prog 45 #[.pointer none, .int .i64 i, .int .u64 x] w fun e w' => e = .returned (.tuple #[]) ∧ Fr [] w w' := by
  go_enter Try.func45, Try.ntmps45
  go_wp2
  go_end0
  exact ⟨rfl, by repeat (first | exact Fr.refl _ _ | refine Fr.alloc ?_ _)⟩
theorem hadd_nil (i x : Int) (w : World) : Calls Try.prog 113 #[.pointer none, .int .i64 i, .int .u64 x] w fun e w' => e = .returned (.int .u64 0) ∧ Fr [] w w' := by
  go_enter Try.func113, Try.ntmps113
  go_wp2
  go_ret
  exact ⟨rfl, by repeat (first | exact Fr.refl _ _ | refine Fr.alloc ?_ _)⟩
theorem hcas_nil (i x y : Int) (w : World) : Calls Try.prog 138 #[.pointer none, .int .i64 i, .int .u64 x, .int .u64 y] w fun e w' => e = .returned (.bool false) ∧ Fr [] w w' := by
  go_enter Try.func138, Try.ntmps138
  go_wp2
  go_ret
  exact ⟨rfl, by repeat (first | exact Fr.refl _ _ | refine Fr.alloc ?_ _)⟩
theorem hclear_nil (w : World) : Calls Try.prog 146 #[.pointer none] w fun e w' => e = .returned (.tuple #[]) ∧ Fr [] w w' := by
  go_enter Try.func146, Try.ntmps146
  go_wp2
  go_end0
  exact ⟨rfl, by repeat (first | exact Fr.refl _ _ | refine Fr.alloc ?_ _)⟩

end Go.Proofs.Yteggckdgjecfmaa
