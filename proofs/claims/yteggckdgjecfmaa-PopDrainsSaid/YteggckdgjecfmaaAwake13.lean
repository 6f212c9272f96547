/- mudlarklaw13.awake: what the document tells. -/
import Derived.Test.YteggckdgjecfmaaPopListW
import Derived.Test.YteggckdgjecfmaaIntsRef
import Derived.Test.YteggckdgjecfmaaRefFirst
namespace Go.Proofs.Yteggckdgjecfmaa
open Go.RowKit
set_option linter.unusedVariables false
set_option linter.unusedSimpArgs false

def cfgP : Cfg := ⟨3, 1, 1, 0⟩
theorem cfgP_right : cfgP.Right := by constructor <;> decide
def wordsP : List Int := firstW cfgP
theorem wordsP_len : wordsP.length = 16 := by decide
theorem popP : popList cfgP wordsP = some [0, 1, 2] := by decide
theorem firstP_any (W : World) : Calls Try.prog 38 #[.agg #[.int .i64 3, .int .i64 1, .int .i64 1, .int .i64 0]] W fun e w' => (∃ g, e = .returned (.slice (some ⟨g, 0, none⟩) 16 16) ∧ Blk w' g 36 (u64s wordsP) ∧ W.heap.size ≤ g) ∧ Fr [] W w' := by
  have h := rfirst4_ok (w := W) (cc := 3) (cm := 1) (cr := 1) (cg := 0) cfgP_right
  have e : (⟨((3 : Nat) : Int), ((1 : Nat) : Int), ((1 : Nat) : Int), ((0 : Nat) : Int)⟩ : Cfg) = cfgP := rfl
  rw [e] at h
  refine h.mono ?_
  rintro e w' ⟨⟨g, rfl, hB, hg⟩, hF⟩
  exact ⟨⟨g, rfl, hB, hg⟩, hF⟩
theorem listP_any (W : World) (v : Value) (h : RdS W v 16 (u64s wordsP)) : Calls Try.prog 54 #[.agg #[.int .i64 3, .int .i64 1, .int .i64 1, .int .i64 0], v] W fun e w' => (∃ u, e = .returned (.tuple #[u, .bool true]) ∧ RdS w' u 3 (i64s [0, 1, 2])) ∧ Fr [] W w' := by
  have h2 := popList_any (w := W) cfgP_right v wordsP (by rw [wordsP_len]; exact h) (by decide) (by decide)
  rw [popP] at h2
  exact h2
theorem intsP_any {W : World} {u v : Value} (hu : RdS W u 3 (i64s [0, 1, 2])) (hv : RdS W v 3 (i64s [0, 1, 2])) : Calls Try.prog 58 #[u, v] W fun e w' => e = .returned (.bool true) ∧ Fr [] W w' := by
  have := rInts_any (a := [0, 1, 2]) (b := [0, 1, 2]) hu hv (by decide) (by decide)
  rw [decide_eq_true rfl] at this
  exact this

set_option maxRecDepth 100000 in
set_option maxHeartbeats 4000000 in
theorem awake13_any (w : World) :
    Calls Try.prog 52 #[] w fun e w' => e = .returned (.bool true) ∧ Fr [] w w' := by
  go_enter Try.func52, Try.ntmps52
  have hB := (Blk.new w [.int .i64 3, .int .i64 1, .int .i64 1, .int .i64 0] 45).drew
  have hFF := ((Fr.refl [] w).alloc (.cells #[.int .i64 3, .int .i64 1, .int .i64 1, .int .i64 0] 45)).drew
  have kB := hB.cell
  go_wp2_with fail
  go_region_held3 (fun w' => w'.cell? ⟨w.heap.size, 0, none⟩ = some (.int .i64 3) ∧ w'.cell? ⟨w.heap.size, 1, none⟩ = some (.int .i64 1) ∧ w'.cell? ⟨w.heap.size, 2, none⟩ = some (.int .i64 1) ∧ w'.cell? ⟨w.heap.size, 3, none⟩ = some (.int .i64 0)) (go_keep)
    (first | (go_at_call 38; refine (firstP_any _).mono ?_; rintro e w2 ⟨⟨g, rfl, hG, hg⟩, hF2⟩; (have hB := hB.kept hF2 List.not_mem_nil); (have kB := hB.cell); (have hFF := hFF.trans hF2)) | (go_at_call 54; refine (listP_any _ _ (RdS.of_blk hG)).mono ?_; rintro e w3 ⟨⟨u, rfl, hU⟩, hF2⟩; (have hB := hB.kept hF2 List.not_mem_nil); (have kB := hB.cell); (have hFF := hFF.trans hF2)))
  go_wp2_with (first | (go_at_call 58; refine (intsP_any (hU.alloc _) (RdS.of_blk (Blk.new _ [.int .i64 0, .int .i64 1, .int .i64 2] 3))).mono ?_; rintro e w4 ⟨rfl, hF2⟩; (have hFF := (hFF.alloc _).trans hF2)))
  go_ret
  exact ⟨rfl, hFF⟩

end Go.Proofs.Yteggckdgjecfmaa
