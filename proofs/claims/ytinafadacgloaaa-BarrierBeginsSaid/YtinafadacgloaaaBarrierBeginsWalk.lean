/- mudlarklaw10.BarrierBegins: the walk. -/
import Derived.Test.YtinafadacgloaaaBarrierRef
import Derived.Test.YtinafadacgloaaaAwake10
import Derived.Test.YtinafadacgloaaaMutWf
namespace Go.Proofs.Ytinafadacgloaaa
open Go.RowKit
set_option linter.unusedVariables false
set_option linter.unusedSimpArgs false

set_option maxRecDepth 100000 in
set_option maxHeartbeats 4000000 in
theorem barrierBegins_any (x : MutV) (u back : Int) (w : World) (h0 : 0 ≤ u) (h1 : u < 18446744073709551616) :
    Calls Try.prog 4 #[x.val, .int .u64 u, .int .i64 back] w fun e w' => e = .returned (.bool true) ∧ Fr [] w w' := by
  have HB := hid (fun W => begin_any x u back h0 h1 W)
  have HR := hid (fun W => rbegin_any x u back h0 h1 W)
  obtain ⟨q, hq⟩ : ∃ r, r = brBegin x u back := ⟨_, rfl⟩
  rw [← hq] at HB HR
  clear hq h0 h1
  obtain ⟨line2, ok2, oa2, ob2, oc2, a2, b2, cq2, n2, t2, p2, back2, ret2⟩ := q
  obtain ⟨line, ok, oa, ob, oc, a, b, cq, n, t, p, bk, ret⟩ := x
  unfold MutV.val at HB HR ⊢
  go_enter Try.func4, Try.ntmps4
  have hX := Blk.new w [.int .i64 line, .int .i64 ok, .int .i64 oa, .int .i64 ob, .int .i64 oc, .int .u64 a, .int .u64 b, .int .u64 cq, .int .u64 n, .int .u64 t, .int .u64 p, .int .i64 bk, .int .i64 ret] 53
  have kX := hX.cell
  have hFF := (Fr.refl [] w).alloc (.cells #[.int .i64 line, .int .i64 ok, .int .i64 oa, .int .i64 ob, .int .i64 oc, .int .u64 a, .int .u64 b, .int .u64 cq, .int .u64 n, .int .u64 t, .int .u64 p, .int .i64 bk, .int .i64 ret] 53)
  go_wp2_with (first | (go_at_call 25; refine (awake10_any _).mono ?_; rintro e w2 ⟨rfl, hF2⟩; (have hX := hX.kept hF2 (by simp)); (have kX := hX.cell); (have hFF := hFF.trans hF2)))
  have hX := hX.drew
  have hFF := hFF.drew
  go_region_held3 (fun w' => w'.cell? ⟨w.heap.size, 0, none⟩ = some (.int .i64 line) ∧ w'.cell? ⟨w.heap.size, 1, none⟩ = some (.int .i64 ok) ∧ w'.cell? ⟨w.heap.size, 2, none⟩ = some (.int .i64 oa) ∧ w'.cell? ⟨w.heap.size, 3, none⟩ = some (.int .i64 ob) ∧ w'.cell? ⟨w.heap.size, 4, none⟩ = some (.int .i64 oc) ∧ w'.cell? ⟨w.heap.size, 5, none⟩ = some (.int .u64 a) ∧ w'.cell? ⟨w.heap.size, 6, none⟩ = some (.int .u64 b) ∧ w'.cell? ⟨w.heap.size, 7, none⟩ = some (.int .u64 cq) ∧ w'.cell? ⟨w.heap.size, 8, none⟩ = some (.int .u64 n) ∧ w'.cell? ⟨w.heap.size, 9, none⟩ = some (.int .u64 t) ∧ w'.cell? ⟨w.heap.size, 10, none⟩ = some (.int .u64 p) ∧ w'.cell? ⟨w.heap.size, 11, none⟩ = some (.int .i64 bk) ∧ w'.cell? ⟨w.heap.size, 12, none⟩ = some (.int .i64 ret)) (go_keep)
    (first | (go_at_call 26; refine (HB.out _).mono ?_; rintro e w4 ⟨rfl, hF2⟩; (have hX := hX.kept hF2 (by simp)); (have kX := hX.cell); (have hFF := hFF.trans hF2)) | (go_at_call 27; refine (HR.out _).mono ?_; rintro e w4 ⟨rfl, hF2⟩; (have hX := hX.kept hF2 (by simp)); (have kX := hX.cell); (have hFF := hFF.trans hF2)))
  go_wp2
  go_ret
  exact ⟨rfl, hFF⟩

end Go.Proofs.Ytinafadacgloaaa
