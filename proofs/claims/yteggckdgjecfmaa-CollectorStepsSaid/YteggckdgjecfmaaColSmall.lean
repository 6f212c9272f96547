/- collector.Begin, Marks, Swept; the document's. -/
import Derived.Test.YteggckdgjecfmaaCBox
import Derived.Test.YteggckdgjecfmaaRootsBeg
namespace Go.Proofs.Yteggckdgjecfmaa
open Go.RowKit
set_option linter.unusedVariables false
set_option linter.unusedSimpArgs false

theorem cbegin_any (cc cm cr cg : Int) (hc : 0 ≤ cc ∧ cc ≤ 1000000) (w : World) :
    Calls Try.prog 89 #[.agg #[.int .i64 cc, .int .i64 cm, .int .i64 cr, .int .i64 cg]] w fun e w' => e = .returned (colBegin ⟨cc, cm, cr, cg⟩).val ∧ Fr [] w w' := by
  have hcw : IntKind.i64.wrap (cc - 1) = cc - 1 := w64 _ (by omega)
  have hR := Blk.new (w.alloc (.cells #[.int .i64 cc, .int .i64 cm, .int .i64 cr, .int .i64 cg] 45)) zCol 86
  simp only [World.size_alloc, zCol] at hR
  have hFF := ((Fr.refl [] w).alloc (.cells #[.int .i64 cc, .int .i64 cm, .int .i64 cr, .int .i64 cg] 45)).alloc (.cells #[.int .i64 0, .int .i64 0, .int .i64 0, .int .i64 0, .int .u64 0, .int .u64 0, .bool false, .int .i64 0, .int .i64 0] 86)
  go_enter Try.func89, Try.ntmps89
  go_wp2_with (first | (go_at_call 73; refine (rbegin15_any _ _ _ _ _ _ _ _ _ _).mono ?_; rintro e w2 ⟨rfl, hF2⟩; (replace hR := hR.kept hF2 (by simp)); (replace hFF := hFF.trans hF2); (have kR := hR.cell); (have fR := hR.free)))
  have hZ := hR.set9 (.int .i64 1) (.int .i64 0) (.int .i64 0) (.int .i64 0) (.int .u64 0) (.int .u64 0) (.bool false) (.int .i64 (cc - 1)) (.int .i64 0)
  have kZ := hZ.cell
  refine bodyPost_ret (v := .agg #[.int .i64 1, .int .i64 0, .int .i64 0, .int .i64 0, .int .u64 0, .int .u64 0, .bool false, .int .i64 (cc - 1), .int .i64 0]) (by simp [results, Try.results89, go_sem, kZ]) rfl ⟨rfl, ?_⟩
  repeat (first | with_reducible exact hFF | with_reducible refine Fr.setNew ?_ (Nat.le_succ _) _)
theorem rcbegin_any (cc cm cr cg : Int) (hc : 0 ≤ cc ∧ cc ≤ 1000000) (w : World) :
    Calls Try.prog 90 #[.agg #[.int .i64 cc, .int .i64 cm, .int .i64 cr, .int .i64 cg]] w fun e w' => e = .returned (colBegin ⟨cc, cm, cr, cg⟩).val ∧ Fr [] w w' := by
  have hcw : IntKind.i64.wrap (cc - 1) = cc - 1 := w64 _ (by omega)
  go_enter Try.func90, Try.ntmps90
  go_wp2
  exact bodyPost_ret (v := .agg #[.int .i64 1, .int .i64 0, .int .i64 0, .int .i64 0, .int .u64 0, .int .u64 0, .bool false, .int .i64 (cc - 1), .int .i64 0]) (by simp [results, Try.results90, go_sem]) rfl ⟨rfl, ((Fr.refl _ _).alloc _).alloc _⟩

end Go.Proofs.Yteggckdgjecfmaa
