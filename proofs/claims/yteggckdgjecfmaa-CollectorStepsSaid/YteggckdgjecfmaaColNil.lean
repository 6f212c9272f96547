/- collector.Step at a nil hand. -/
import Derived.Test.YteggckdgjecfmaaCol
import Derived.Test.YteggckdgjecfmaaHandNil
namespace Go.Proofs.Yteggckdgjecfmaa
open Go.RowKit
set_option linter.unusedVariables false
set_option linter.unusedSimpArgs false

set_option maxRecDepth 100000 in
set_option maxHeartbeats 4000000 in
theorem layer0nil (w : World) (line j c m a p tail cyc : Int) (found : Bool) : Calls Try.prog 162 #[.pointer none, .agg #[.int .i64 line, .int .i64 j, .int .i64 c, .int .i64 m, .int .u64 a, .int .u64 p, .bool found, .int .i64 tail, .int .i64 cyc]] w fun e w' => e = .returned (.tuple #[.agg #[.int .i64 line, .int .i64 j, .int .i64 c, .int .i64 m, .int .u64 a, .int .u64 p, .bool found, .int .i64 tail, .int .i64 cyc], .int .i64 0, .bool false]) ∧ Fr [] w w' := by
  have HX := hid (fun W => rsnil W line j c m a p tail cyc found)
  have hX := (Blk.new w [.int .i64 (line), .int .i64 (j), .int .i64 (c), .int .i64 (m), .int .u64 (a), .int .u64 (p), .bool (found), .int .i64 (tail), .int .i64 (cyc)] 86).alloc (.cells #[.int .i64 (0), .int .i64 (0), .int .i64 (0), .int .i64 (0), .int .u64 (0), .int .u64 (0), .bool (false), .int .i64 (0), .int .i64 (0)] 86)
  have hR := Blk.new (w.alloc (.cells #[.int .i64 (line), .int .i64 (j), .int .i64 (c), .int .i64 (m), .int .u64 (a), .int .u64 (p), .bool (found), .int .i64 (tail), .int .i64 (cyc)] 86)) zCol 86
  simp only [World.size_alloc] at hR
  have hFF := ((Fr.refl [] w).alloc (.cells #[.int .i64 (line), .int .i64 (j), .int .i64 (c), .int .i64 (m), .int .u64 (a), .int .u64 (p), .bool (found), .int .i64 (tail), .int .i64 (cyc)] 86)).alloc (.cells #[.int .i64 (0), .int .i64 (0), .int .i64 (0), .int .i64 (0), .int .u64 (0), .int .u64 (0), .bool (false), .int .i64 (0), .int .i64 (0)] 86)
  have hXn : w.heap.size ∉ ([] : List Nat) := List.not_mem_nil
  have hRn : w.heap.size + 1 ∉ ([] : List Nat) := List.not_mem_nil
  simp only [zCol] at hR
  go_enter Try.func162, Try.ntmps162
  go_wp2_with (first | (go_at_call 74; refine (HX.out _).mono ?_; rintro e w2 ⟨rfl, hF2⟩; (replace hX := hX.kept hF2 hXn); (replace hR := hR.kept hF2 hRn); (replace hFF := hFF.trans hF2); (have lR := hR.lt); (have hY := Blk.new w2 [.int .i64 (line), .int .i64 (j), .int .i64 (c), .int .i64 (m), .int .u64 (a), .int .u64 (p), .bool (found), .int .i64 (tail), .int .i64 (cyc)] 86); (have kY := hY.cell); (have hR2 := hR.alloc (.cells #[.int .i64 (line), .int .i64 (j), .int .i64 (c), .int .i64 (m), .int .u64 (a), .int .u64 (p), .bool (found), .int .i64 (tail), .int .i64 (cyc)] 86)); (have kR := hR2.cell); (have fR := hR2.free); (have kR0 := hR.cell); (have fR0 := hR.free)))
  have hZ := (hR.set9 (.int .i64 (line)) (.int .i64 (j)) (.int .i64 (c)) (.int .i64 (m)) (.int .u64 (a)) (.int .u64 (p)) (.bool (found)) (.int .i64 (tail)) (.int .i64 (cyc))).alloc (.cells #[.int .i64 (line), .int .i64 (j), .int .i64 (c), .int .i64 (m), .int .u64 (a), .int .u64 (p), .bool (found), .int .i64 (tail), .int .i64 (cyc)] 86)
  have kZ := hZ.cell
  refine bodyPost_ret (v := .tuple #[.agg #[.int .i64 (line), .int .i64 (j), .int .i64 (c), .int .i64 (m), .int .u64 (a), .int .u64 (p), .bool (found), .int .i64 (tail), .int .i64 (cyc)], .int .i64 0, .bool false]) (by simp [results, Try.results162, go_sem, kZ]) rfl ⟨rfl, ?_⟩
  · repeat (first | with_reducible exact hFF | with_reducible refine Fr.alloc ?_ _ | with_reducible refine Fr.setNew ?_ (Nat.le_succ _) _)

set_option maxRecDepth 100000 in
set_option maxHeartbeats 4000000 in
theorem layer1nil (w : World) (line j c m a p tail cyc : Int) (found : Bool) : Calls Try.prog 163 #[.pointer none, .agg #[.int .i64 line, .int .i64 j, .int .i64 c, .int .i64 m, .int .u64 a, .int .u64 p, .bool found, .int .i64 tail, .int .i64 cyc]] w fun e w' => e = .returned (.tuple #[.agg #[.int .i64 line, .int .i64 j, .int .i64 c, .int .i64 m, .int .u64 a, .int .u64 p, .bool found, .int .i64 tail, .int .i64 cyc], .int .i64 0, .bool false]) ∧ Fr [] w w' := by
  have HX := hid (fun W => panil W line j c m a p tail cyc found)
  have hX := (Blk.new w [.int .i64 (line), .int .i64 (j), .int .i64 (c), .int .i64 (m), .int .u64 (a), .int .u64 (p), .bool (found), .int .i64 (tail), .int .i64 (cyc)] 86).alloc (.cells #[.int .i64 (0), .int .i64 (0), .int .i64 (0), .int .i64 (0), .int .u64 (0), .int .u64 (0), .bool (false), .int .i64 (0), .int .i64 (0)] 86)
  have hR := Blk.new (w.alloc (.cells #[.int .i64 (line), .int .i64 (j), .int .i64 (c), .int .i64 (m), .int .u64 (a), .int .u64 (p), .bool (found), .int .i64 (tail), .int .i64 (cyc)] 86)) zCol 86
  simp only [World.size_alloc] at hR
  have hFF := ((Fr.refl [] w).alloc (.cells #[.int .i64 (line), .int .i64 (j), .int .i64 (c), .int .i64 (m), .int .u64 (a), .int .u64 (p), .bool (found), .int .i64 (tail), .int .i64 (cyc)] 86)).alloc (.cells #[.int .i64 (0), .int .i64 (0), .int .i64 (0), .int .i64 (0), .int .u64 (0), .int .u64 (0), .bool (false), .int .i64 (0), .int .i64 (0)] 86)
  have hXn : w.heap.size ∉ ([] : List Nat) := List.not_mem_nil
  have hRn : w.heap.size + 1 ∉ ([] : List Nat) := List.not_mem_nil
  simp only [zCol] at hR
  go_enter Try.func163, Try.ntmps163
  go_wp2_with (first | (go_at_call 78; refine (HX.out _).mono ?_; rintro e w2 ⟨rfl, hF2⟩; (replace hX := hX.kept hF2 hXn); (replace hR := hR.kept hF2 hRn); (replace hFF := hFF.trans hF2); (have lR := hR.lt); (have hY := Blk.new w2 [.int .i64 (line), .int .i64 (j), .int .i64 (c), .int .i64 (m), .int .u64 (a), .int .u64 (p), .bool (found), .int .i64 (tail), .int .i64 (cyc)] 86); (have kY := hY.cell); (have hR2 := hR.alloc (.cells #[.int .i64 (line), .int .i64 (j), .int .i64 (c), .int .i64 (m), .int .u64 (a), .int .u64 (p), .bool (found), .int .i64 (tail), .int .i64 (cyc)] 86)); (have kR := hR2.cell); (have fR := hR2.free); (have kR0 := hR.cell); (have fR0 := hR.free)))
  have hZ := (hR.set9 (.int .i64 (line)) (.int .i64 (j)) (.int .i64 (c)) (.int .i64 (m)) (.int .u64 (a)) (.int .u64 (p)) (.bool (found)) (.int .i64 (tail)) (.int .i64 (cyc))).alloc (.cells #[.int .i64 (line), .int .i64 (j), .int .i64 (c), .int .i64 (m), .int .u64 (a), .int .u64 (p), .bool (found), .int .i64 (tail), .int .i64 (cyc)] 86)
  have kZ := hZ.cell
  refine bodyPost_ret (v := .tuple #[.agg #[.int .i64 (line), .int .i64 (j), .int .i64 (c), .int .i64 (m), .int .u64 (a), .int .u64 (p), .bool (found), .int .i64 (tail), .int .i64 (cyc)], .int .i64 0, .bool false]) (by simp [results, Try.results163, go_sem, kZ]) rfl ⟨rfl, ?_⟩
  · repeat (first | with_reducible exact hFF | with_reducible refine Fr.alloc ?_ _ | with_reducible refine Fr.setNew ?_ (Nat.le_succ _) _)

set_option maxRecDepth 100000 in
set_option maxHeartbeats 4000000 in
theorem layer2nil (w : World) (line j c m a p tail cyc : Int) (found : Bool) : Calls Try.prog 164 #[.pointer none, .agg #[.int .i64 line, .int .i64 j, .int .i64 c, .int .i64 m, .int .u64 a, .int .u64 p, .bool found, .int .i64 tail, .int .i64 cyc]] w fun e w' => e = .returned (.tuple #[.agg #[.int .i64 line, .int .i64 j, .int .i64 c, .int .i64 m, .int .u64 a, .int .u64 p, .bool found, .int .i64 tail, .int .i64 cyc], .int .i64 0, .bool false]) ∧ Fr [] w w' := by
  have HX := hid (fun W => banil W line j c m a p tail cyc found)
  have hX := (Blk.new w [.int .i64 (line), .int .i64 (j), .int .i64 (c), .int .i64 (m), .int .u64 (a), .int .u64 (p), .bool (found), .int .i64 (tail), .int .i64 (cyc)] 86).alloc (.cells #[.int .i64 (0), .int .i64 (0), .int .i64 (0), .int .i64 (0), .int .u64 (0), .int .u64 (0), .bool (false), .int .i64 (0), .int .i64 (0)] 86)
  have hR := Blk.new (w.alloc (.cells #[.int .i64 (line), .int .i64 (j), .int .i64 (c), .int .i64 (m), .int .u64 (a), .int .u64 (p), .bool (found), .int .i64 (tail), .int .i64 (cyc)] 86)) zCol 86
  simp only [World.size_alloc] at hR
  have hFF := ((Fr.refl [] w).alloc (.cells #[.int .i64 (line), .int .i64 (j), .int .i64 (c), .int .i64 (m), .int .u64 (a), .int .u64 (p), .bool (found), .int .i64 (tail), .int .i64 (cyc)] 86)).alloc (.cells #[.int .i64 (0), .int .i64 (0), .int .i64 (0), .int .i64 (0), .int .u64 (0), .int .u64 (0), .bool (false), .int .i64 (0), .int .i64 (0)] 86)
  have hXn : w.heap.size ∉ ([] : List Nat) := List.not_mem_nil
  have hRn : w.heap.size + 1 ∉ ([] : List Nat) := List.not_mem_nil
  simp only [zCol] at hR
  go_enter Try.func164, Try.ntmps164
  go_wp2_with (first | (go_at_call 69; refine (HX.out _).mono ?_; rintro e w2 ⟨rfl, hF2⟩; (replace hX := hX.kept hF2 hXn); (replace hR := hR.kept hF2 hRn); (replace hFF := hFF.trans hF2); (have lR := hR.lt); (have hY := Blk.new w2 [.int .i64 (line), .int .i64 (j), .int .i64 (c), .int .i64 (m), .int .u64 (a), .int .u64 (p), .bool (found), .int .i64 (tail), .int .i64 (cyc)] 86); (have kY := hY.cell); (have hR2 := hR.alloc (.cells #[.int .i64 (line), .int .i64 (j), .int .i64 (c), .int .i64 (m), .int .u64 (a), .int .u64 (p), .bool (found), .int .i64 (tail), .int .i64 (cyc)] 86)); (have kR := hR2.cell); (have fR := hR2.free); (have kR0 := hR.cell); (have fR0 := hR.free)))
  have hZ := (hR.set9 (.int .i64 (line)) (.int .i64 (j)) (.int .i64 (c)) (.int .i64 (m)) (.int .u64 (a)) (.int .u64 (p)) (.bool (found)) (.int .i64 (tail)) (.int .i64 (cyc))).alloc (.cells #[.int .i64 (line), .int .i64 (j), .int .i64 (c), .int .i64 (m), .int .u64 (a), .int .u64 (p), .bool (found), .int .i64 (tail), .int .i64 (cyc)] 86)
  have kZ := hZ.cell
  refine bodyPost_ret (v := .tuple #[.agg #[.int .i64 (line), .int .i64 (j), .int .i64 (c), .int .i64 (m), .int .u64 (a), .int .u64 (p), .bool (found), .int .i64 (tail), .int .i64 (cyc)], .int .i64 0, .bool false]) (by simp [results, Try.results164, go_sem, kZ]) rfl ⟨rfl, ?_⟩
  · repeat (first | with_reducible exact hFF | with_reducible refine Fr.alloc ?_ _ | with_reducible refine Fr.setNew ?_ (Nat.le_succ _) _)

set_option maxRecDepth 100000 in
set_option maxHeartbeats 4000000 in
theorem colnil_any (w : World) (line j c m a p tail cyc : Int) (found : Bool) : Calls Try.prog 86 #[.pointer none, .agg #[.int .i64 line, .int .i64 j, .int .i64 c, .int .i64 m, .int .u64 a, .int .u64 p, .bool found, .int .i64 tail, .int .i64 cyc]] w fun e w' => e = .returned (.tuple #[.agg #[.int .i64 line, .int .i64 j, .int .i64 c, .int .i64 m, .int .u64 a, .int .u64 p, .bool found, .int .i64 tail, .int .i64 cyc], .int .i64 0]) ∧ Fr [] w w' := by
  have L0 := hid (fun W => layer0nil W line j c m a p tail cyc found)
  have L1 := hid (fun W => layer1nil W line j c m a p tail cyc found)
  have L2 := hid (fun W => layer2nil W line j c m a p tail cyc found)
  have L3 := hid (fun W => swnil W line j c m a p tail cyc found)
  have hX := (Blk.new w [.int .i64 (line), .int .i64 (j), .int .i64 (c), .int .i64 (m), .int .u64 (a), .int .u64 (p), .bool (found), .int .i64 (tail), .int .i64 (cyc)] 86).alloc (.cells #[.int .i64 (0), .int .i64 (0), .int .i64 (0), .int .i64 (0), .int .u64 (0), .int .u64 (0), .bool (false), .int .i64 (0), .int .i64 (0)] 86)
  have hR := Blk.new (w.alloc (.cells #[.int .i64 (line), .int .i64 (j), .int .i64 (c), .int .i64 (m), .int .u64 (a), .int .u64 (p), .bool (found), .int .i64 (tail), .int .i64 (cyc)] 86)) zCol 86
  simp only [World.size_alloc] at hR
  have hFF := ((Fr.refl [] w).alloc (.cells #[.int .i64 (line), .int .i64 (j), .int .i64 (c), .int .i64 (m), .int .u64 (a), .int .u64 (p), .bool (found), .int .i64 (tail), .int .i64 (cyc)] 86)).alloc (.cells #[.int .i64 (0), .int .i64 (0), .int .i64 (0), .int .i64 (0), .int .u64 (0), .int .u64 (0), .bool (false), .int .i64 (0), .int .i64 (0)] 86)
  have nX : w.heap.size ∉ ([] : List Nat) := List.not_mem_nil
  have nR : w.heap.size + 1 ∉ ([] : List Nat) := List.not_mem_nil
  simp only [zCol] at hR
  go_enter Try.func86, Try.ntmps86
  go_wp2_with (first | (go_at_call 146; refine (hclear_nil _).mono ?_; rintro e w2 ⟨rfl, hF2⟩; (replace hX := hX.kept hF2 nX); (replace hR := hR.kept hF2 nR); (replace hFF := hFF.trans hF2); (have lX := hX.lt); (have lR := hR.lt)) | (go_at_call 147; refine (layers_any _).mono ?_; rintro e w3 ⟨rfl, rfl⟩))
  have hL := Blk.new w2 [.func (.func 162) #[] #[], .func (.func 163) #[] #[], .func (.func 164) #[] #[], .func (.func 64) #[] #[]] 162
  have nL : w2.heap.size ∉ ([] : List Nat) := List.not_mem_nil
  have kL := hL.cell
  have lL := hL.lt
  have kX := ((hX.alloc (.cells #[.func (.func 162) #[] #[], .func (.func 163) #[] #[], .func (.func 164) #[] #[], .func (.func 64) #[] #[]] 162)).alloc (.cells #[.func (.func 162) #[] #[]] 162)).cell
  refine wp_loop_rounds 5 ?_
  rw [rounds_succ]
  go_wp2_with (first | (go_at_call 162; refine (L0.out _).mono ?_; rintro e w4 ⟨rfl, hF2⟩; (replace hX := ((hX.alloc _).alloc _).kept hF2 nX); (replace hR := ((hR.alloc _).alloc _).kept hF2 nR); (replace hL := (hL.alloc _).kept hF2 nL); (replace hFF := ((hFF.alloc _).alloc _).trans hF2); (have lX := hX.lt); (have lR := hR.lt); (have lL := hL.lt); (have kL := (hL.alloc (.cells #[.int .i64 (line), .int .i64 (j), .int .i64 (c), .int .i64 (m), .int .u64 (a), .int .u64 (p), .bool (found), .int .i64 (tail), .int .i64 (cyc)] 86)).cell); (have kR := (hR.alloc (.cells #[.int .i64 (line), .int .i64 (j), .int .i64 (c), .int .i64 (m), .int .u64 (a), .int .u64 (p), .bool (found), .int .i64 (tail), .int .i64 (cyc)] 86)).cell); (have fR := (hR.alloc (.cells #[.int .i64 (line), .int .i64 (j), .int .i64 (c), .int .i64 (m), .int .u64 (a), .int .u64 (p), .bool (found), .int .i64 (tail), .int .i64 (cyc)] 86)).free); (have kX1 := (hX.alloc (.cells #[.int .i64 (line), .int .i64 (j), .int .i64 (c), .int .i64 (m), .int .u64 (a), .int .u64 (p), .bool (found), .int .i64 (tail), .int .i64 (cyc)] 86)).cell); (have kL0 := hL.cell); (have kR0 := hR.cell); (have fR0 := hR.free); (have kX0 := hX.cell); (have kX := ((hX.alloc (.cells #[.int .i64 (line), .int .i64 (j), .int .i64 (c), .int .i64 (m), .int .u64 (a), .int .u64 (p), .bool (found), .int .i64 (tail), .int .i64 (cyc)] 86)).alloc (.cells #[.func (.func 163) #[] #[]] 162)).cell)))
  rw [rounds_succ]
  go_wp2_with (first | (go_at_call 163; refine (L1.out _).mono ?_; rintro e w5 ⟨rfl, hF2⟩; (replace hX := ((hX.alloc _).alloc _).kept hF2 nX); (replace hR := ((hR.alloc _).alloc _).kept hF2 nR); (replace hL := ((hL.alloc _).alloc _).kept hF2 nL); (replace hFF := ((hFF.alloc _).alloc _).trans hF2); (have lX := hX.lt); (have lR := hR.lt); (have lL := hL.lt); (have kL := (hL.alloc (.cells #[.int .i64 (line), .int .i64 (j), .int .i64 (c), .int .i64 (m), .int .u64 (a), .int .u64 (p), .bool (found), .int .i64 (tail), .int .i64 (cyc)] 86)).cell); (have kR := (hR.alloc (.cells #[.int .i64 (line), .int .i64 (j), .int .i64 (c), .int .i64 (m), .int .u64 (a), .int .u64 (p), .bool (found), .int .i64 (tail), .int .i64 (cyc)] 86)).cell); (have fR := (hR.alloc (.cells #[.int .i64 (line), .int .i64 (j), .int .i64 (c), .int .i64 (m), .int .u64 (a), .int .u64 (p), .bool (found), .int .i64 (tail), .int .i64 (cyc)] 86)).free); (have kX1 := (hX.alloc (.cells #[.int .i64 (line), .int .i64 (j), .int .i64 (c), .int .i64 (m), .int .u64 (a), .int .u64 (p), .bool (found), .int .i64 (tail), .int .i64 (cyc)] 86)).cell); (have kL0 := hL.cell); (have kR0 := hR.cell); (have fR0 := hR.free); (have kX0 := hX.cell); (have kX := ((hX.alloc (.cells #[.int .i64 (line), .int .i64 (j), .int .i64 (c), .int .i64 (m), .int .u64 (a), .int .u64 (p), .bool (found), .int .i64 (tail), .int .i64 (cyc)] 86)).alloc (.cells #[.func (.func 164) #[] #[]] 162)).cell)))
  rw [rounds_succ]
  go_wp2_with (first | (go_at_call 164; refine (L2.out _).mono ?_; rintro e w6 ⟨rfl, hF2⟩; (replace hX := ((hX.alloc _).alloc _).kept hF2 nX); (replace hR := ((hR.alloc _).alloc _).kept hF2 nR); (replace hL := ((hL.alloc _).alloc _).kept hF2 nL); (replace hFF := ((hFF.alloc _).alloc _).trans hF2); (have lX := hX.lt); (have lR := hR.lt); (have lL := hL.lt); (have kL := (hL.alloc (.cells #[.int .i64 (line), .int .i64 (j), .int .i64 (c), .int .i64 (m), .int .u64 (a), .int .u64 (p), .bool (found), .int .i64 (tail), .int .i64 (cyc)] 86)).cell); (have kR := (hR.alloc (.cells #[.int .i64 (line), .int .i64 (j), .int .i64 (c), .int .i64 (m), .int .u64 (a), .int .u64 (p), .bool (found), .int .i64 (tail), .int .i64 (cyc)] 86)).cell); (have fR := (hR.alloc (.cells #[.int .i64 (line), .int .i64 (j), .int .i64 (c), .int .i64 (m), .int .u64 (a), .int .u64 (p), .bool (found), .int .i64 (tail), .int .i64 (cyc)] 86)).free); (have kX1 := (hX.alloc (.cells #[.int .i64 (line), .int .i64 (j), .int .i64 (c), .int .i64 (m), .int .u64 (a), .int .u64 (p), .bool (found), .int .i64 (tail), .int .i64 (cyc)] 86)).cell); (have kL0 := hL.cell); (have kR0 := hR.cell); (have fR0 := hR.free); (have kX0 := hX.cell); (have kX := ((hX.alloc (.cells #[.int .i64 (line), .int .i64 (j), .int .i64 (c), .int .i64 (m), .int .u64 (a), .int .u64 (p), .bool (found), .int .i64 (tail), .int .i64 (cyc)] 86)).alloc (.cells #[.func (.func 64) #[] #[]] 162)).cell)))
  rw [rounds_succ]
  go_wp2_with (first | (go_at_call 64; refine (L3.out _).mono ?_; rintro e w7 ⟨rfl, hF2⟩; (replace hX := ((hX.alloc _).alloc _).kept hF2 nX); (replace hR := ((hR.alloc _).alloc _).kept hF2 nR); (replace hL := ((hL.alloc _).alloc _).kept hF2 nL); (replace hFF := ((hFF.alloc _).alloc _).trans hF2); (have lX := hX.lt); (have lR := hR.lt); (have lL := hL.lt); (have kL := (hL.alloc (.cells #[.int .i64 (line), .int .i64 (j), .int .i64 (c), .int .i64 (m), .int .u64 (a), .int .u64 (p), .bool (found), .int .i64 (tail), .int .i64 (cyc)] 86)).cell); (have kR := (hR.alloc (.cells #[.int .i64 (line), .int .i64 (j), .int .i64 (c), .int .i64 (m), .int .u64 (a), .int .u64 (p), .bool (found), .int .i64 (tail), .int .i64 (cyc)] 86)).cell); (have fR := (hR.alloc (.cells #[.int .i64 (line), .int .i64 (j), .int .i64 (c), .int .i64 (m), .int .u64 (a), .int .u64 (p), .bool (found), .int .i64 (tail), .int .i64 (cyc)] 86)).free); (have kX1 := (hX.alloc (.cells #[.int .i64 (line), .int .i64 (j), .int .i64 (c), .int .i64 (m), .int .u64 (a), .int .u64 (p), .bool (found), .int .i64 (tail), .int .i64 (cyc)] 86)).cell); (have kL0 := hL.cell); (have kR0 := hR.cell); (have fR0 := hR.free); (have kX0 := hX.cell)))
  rw [rounds_succ]
  go_wp2_with fail
  have hZ := (hR.set9 (.int .i64 (line)) (.int .i64 (j)) (.int .i64 (c)) (.int .i64 (m)) (.int .u64 (a)) (.int .u64 (p)) (.bool (found)) (.int .i64 (tail)) (.int .i64 (cyc))).alloc (.cells #[.int .i64 (line), .int .i64 (j), .int .i64 (c), .int .i64 (m), .int .u64 (a), .int .u64 (p), .bool (found), .int .i64 (tail), .int .i64 (cyc)] 86)
  have kZ := hZ.cell
  refine bodyPost_ret (v := .tuple #[.agg #[.int .i64 (line), .int .i64 (j), .int .i64 (c), .int .i64 (m), .int .u64 (a), .int .u64 (p), .bool (found), .int .i64 (tail), .int .i64 (cyc)], .int .i64 0]) (by simp [results, Try.results86, go_sem, kZ]) rfl ⟨rfl, ?_⟩
  · repeat (first | with_reducible exact hFF | with_reducible refine Fr.alloc ?_ _ | with_reducible refine Fr.setNew ?_ (Nat.le_succ _) _)

end Go.Proofs.Yteggckdgjecfmaa
