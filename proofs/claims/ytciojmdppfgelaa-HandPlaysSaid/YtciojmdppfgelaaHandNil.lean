/- What a nil hand does: nothing. -/
import Derived.Test.YtciojmdppfgelaaHandNew
namespace Go.Proofs.Ytciojmdppfgelaa
open Go.RowKit
set_option linter.unusedVariables false
set_option linter.unusedSimpArgs false

theorem hload_nil (i : Int) (w : World) : Calls Try.prog 51 #[.pointer none, .int .i64 i] w fun e w' => e = .returned (.int .u64 0) ∧ Fr [] w w' := by
  go_enter Try.func51, Try.ntmps51
  go_wp2
  go_ret
  exact ⟨rfl, by repeat (first | exact Fr.refl _ _ | refine Fr.alloc ?_ _)⟩
theorem hstore_nil (i x : Int) (w : World) : Calls Try.prog 53 #[.pointer none, .int .i64 i, .int .u64 x] w fun e w' => e = .returned (.tuple #[]) ∧ Fr [] w w' := by
  go_enter Try.func53, Try.ntmps53
  go_wp2
  go_end0
  exact ⟨rfl, by repeat (first | exact Fr.refl _ _ | refine Fr.alloc ?_ _)⟩
theorem hadd_nil (i x : Int) (w : World) : Calls Try.prog 57 #[.pointer none, .int .i64 i, .int .u64 x] w fun e w' => e = .returned (.int .u64 0) ∧ Fr [] w w' := by
  go_enter Try.func57, Try.ntmps57
  go_wp2
  go_ret
  exact ⟨rfl, by repeat (first | exact Fr.refl _ _ | refine Fr.alloc ?_ _)⟩
theorem hcas_nil (i x y : Int) (w : World) : Calls Try.prog 55 #[.pointer none, .int .i64 i, .int .u64 x, .int .u64 y] w fun e w' => e = .returned (.bool false) ∧ Fr [] w w' := by
  go_enter Try.func55, Try.ntmps55
  go_wp2
  go_ret
  exact ⟨rfl, by repeat (first | exact Fr.refl _ _ | refine Fr.alloc ?_ _)⟩
theorem hclear_nil (w : World) : Calls Try.prog 59 #[.pointer none] w fun e w' => e = .returned (.tuple #[]) ∧ Fr [] w w' := by
  go_enter Try.func59, Try.ntmps59
  go_wp2
  go_end0
  exact ⟨rfl, by repeat (first | exact Fr.refl _ _ | refine Fr.alloc ?_ _)⟩

end Go.Proofs.Ytciojmdppfgelaa
