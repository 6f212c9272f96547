/- mudlarklaw07.awake: what the document tells. -/
import Derived.Test.YtciojmdppfgelaaHandNew
namespace Go.Proofs.Ytciojmdppfgelaa
open Go.RowKit
set_option linter.unusedVariables false
set_option linter.unusedSimpArgs false

def cfg7 : Cfg := ⟨2, 1, 1, 0⟩
theorem cfg7_right : cfg7.Right := by constructor <;> decide
def words7 : List Int := [1, 0, 0, 0, 0, 0, 0, 0, 3, 0, 0, 0, 0]
theorem first7 : firstW cfg7 = words7 := by decide
def s7 : HS := ⟨cfg7, words7, Acc.z⟩
theorem s7_0 : wAt s7.ws 0 = 1 := by decide
theorem s7_acc : (s7.doIt (aLoad 0)).acc = ⟨1, 0, 0, 0, 1⟩ := by decide

theorem new7_any (W : World) : Calls Try.prog 61 #[.agg #[.int .i64 2, .int .i64 1, .int .i64 1, .int .i64 0]] W fun e w' => (∃ h ab db, e = .returned (.tuple #[.pointer (some ⟨h, 0, none⟩), .int .i64 0]) ∧ HAt w' h ab db s7 ∧ W.heap.size ≤ h ∧ W.heap.size ≤ ab ∧ W.heap.size ≤ db) ∧ Fr [] W w' := by
  have h := new_ok (w := W) cfg7_right
  rw [first7] at h
  exact h
theorem load7 {W : World} {h ab db : Nat} (H : HAt W h ab db s7) : Calls Try.prog 51 #[.pointer (some ⟨h, 0, none⟩), .int .i64 0] W fun e w' => e = .returned (.int .u64 1) ∧ HAt w' h ab db (s7.doIt (aLoad 0)) ∧ Fr [h, db] W w' := by
  have := hload_any H 0
  rw [s7_0] at this
  exact this

set_option maxRecDepth 100000 in
set_option maxHeartbeats 1000000 in
theorem awake07_any (w : World) :
    Calls Try.prog 48 #[] w fun e w' => e = .returned (.bool true) ∧ Fr [] w w' := by
  go_enter Try.func48, Try.ntmps48
  go_wp2_with (first | (go_at_call 61; with_reducible refine (new7_any _).mono ?_; rintro e w2 ⟨⟨h, ab, db, rfl, HH, q1, q2, q3⟩, hF2⟩) | (go_at_call 51; with_reducible refine (load7 HH).mono ?_; rintro e w3 ⟨rfl, HH3, hF3⟩; (have kH := HH3.blk.cell); rw [s7_acc] at kH))
  go_ret
  exact ⟨rfl, hF2.trans_new hF3 (by intro i m l; simp at m; omega)⟩

end Go.Proofs.Ytciojmdppfgelaa
