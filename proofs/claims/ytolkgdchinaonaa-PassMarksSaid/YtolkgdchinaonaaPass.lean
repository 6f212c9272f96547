/- pass.next, pass.Step$1; pass.Step line by line. -/
import Derived.Test.YtolkgdchinaonaaCBox
import Derived.Test.YtolkgdchinaonaaBar
namespace Go.Proofs.Ytolkgdchinaonaa
open Go.RowKit
set_option linter.unusedVariables false
set_option linter.unusedSimpArgs false

set_option maxRecDepth 100000 in
set_option maxHeartbeats 4000000 in
theorem passnext_more {w : World} {h ab db : Nat} {s : HS} (H : HAt w h ab db s) (line j c m a p tail cyc : Int) (found : Bool) (hc : -1000000 ≤ c ∧ c ≤ 1000000) (hl : c + 1 < s.c.cells) :
    Calls Try.prog 145 #[.pointer (some ⟨h, 0, none⟩), .agg #[.int .i64 (line), .int .i64 (j), .int .i64 (c), .int .i64 (m), .int .u64 (a), .int .u64 (p), .bool (found), .int .i64 (tail), .int .i64 (cyc)]] w fun e w' => e = .returned (.agg #[.int .i64 (4), .int .i64 (j), .int .i64 (c + 1), .int .i64 (m), .int .u64 (a), .int .u64 (p), .bool (found), .int .i64 (tail), .int .i64 (cyc)]) ∧ (HAt w' h ab db s ∧ Fr [] w w') := by
  have B := HB.start H [.int .i64 (line), .int .i64 (j), .int .i64 (c), .int .i64 (m), .int .u64 (a), .int .u64 (p), .bool (found), .int .i64 (tail), .int .i64 (cyc)]
  have n0 := B.l1
  have n1 := B.l3
  have n2 := B.l2
  have hrr := H.right
  have hcw : IntKind.i64.wrap (c + 1) = c + 1 := w64 _ (by omega)
  have H0 := H
  have gl : decide (c + 1 < s.c.cells) = true := by simpa using hl

  clear H
  simp only [zCol] at B
  replace kX := B.x.cell
  replace fX := B.x.free
  replace kR := B.z.cell
  replace fR := B.z.free
  replace kH := B.H.cellsC (c := s.c) rfl
  go_enter Try.func145, Try.ntmps145
  go_upto_region 3 with fail
  replace B := HB.start H0 [.int .i64 (line), .int .i64 (j), .int .i64 (c + 1), .int .i64 (m), .int .u64 (a), .int .u64 (p), .bool (found), .int .i64 (tail), .int .i64 (cyc)]
  simp only [zCol] at B
  replace kX := B.x.cell
  replace fX := B.x.free
  replace kR := B.z.cell
  replace fR := B.z.free
  replace kH := B.H.cellsC (c := s.c) rfl
  replace B := B.drew
  refine wp_region_held_drew (S := (fun (W : World) => W.cell? ⟨w.heap.size, 2, none⟩ = some (.int .i64 (c + 1)) ∧ W.cell? ⟨h, 1, none⟩ = some (.int .i64 s.c.cells) ∧ W.cell? ⟨h, 2, none⟩ = some (.int .i64 s.c.muts) ∧ W.cell? ⟨h, 3, none⟩ = some (.int .i64 s.c.regs) ∧ W.cell? ⟨h, 4, none⟩ = some (.int .i64 s.c.globs))) (by kernel_rfl) (by exact ⟨B.x.cell 2, B.H.blk.cell 1, B.H.blk.cell 2, B.H.blk.cell 3, B.H.blk.cell 4⟩) (fun hHeld => ?_)
  refine wpAnyH_take (i := 0) (v := ?_) rfl (by kernel_rfl) (by kernel_rfl) (by kernel_rfl) (fun _ _ _ h => h) (Or.inl ⟨by rfl, ?_⟩) (by assumption) ?_
  rotate_left
  · intro w hSw; (try dsimp only at hSw); go_simp; first | done | with_reducible rfl
  try simp only [Act.put, List.getElem_toArray, List.getElem_cons_succ, List.getElem_cons_zero, List.setIfInBounds_toArray, List.set_cons_zero, List.set_cons_succ]
  refine wpAnyH_take (i := 1) (v := ?_) rfl (by kernel_rfl) (by kernel_rfl) (by kernel_rfl) (fun _ _ _ h => h) (Or.inl ⟨by rfl, ?_⟩) (by assumption) ?_
  rotate_left
  · intro w hSw; (try dsimp only at hSw); go_simp; first | done | with_reducible rfl
  try simp only [Act.put, List.getElem_toArray, List.getElem_cons_succ, List.getElem_cons_zero, List.setIfInBounds_toArray, List.set_cons_zero, List.set_cons_succ]
  refine wpAnyH_take (i := 2) (v := ?_) rfl (by kernel_rfl) (by kernel_rfl) (by kernel_rfl) (fun _ _ _ h => h) (Or.inl ⟨by rfl, ?_⟩) (by assumption) ?_
  rotate_left
  · intro w hSw; (try dsimp only at hSw); go_simp; first | done | with_reducible rfl
  try simp only [Act.put, List.getElem_toArray, List.getElem_cons_succ, List.getElem_cons_zero, List.setIfInBounds_toArray, List.set_cons_zero, List.set_cons_succ]
  refine wpAnyH_take (i := 3) (v := ?_) rfl (by kernel_rfl) (by kernel_rfl) (by kernel_rfl) (fun _ _ _ h => h) (Or.inl ⟨by rfl, ?_⟩) (by assumption) ?_
  rotate_left
  · intro w hSw; (try dsimp only at hSw); go_simp; first | done | with_reducible rfl
  try simp only [Act.put, List.getElem_toArray, List.getElem_cons_succ, List.getElem_cons_zero, List.setIfInBounds_toArray, List.set_cons_zero, List.set_cons_succ]
  refine wpAnyH_take (i := 4) (v := ?_) rfl (by kernel_rfl) (by kernel_rfl) (by kernel_rfl) (fun _ _ _ h => h) (Or.inl ⟨by rfl, ?_⟩) (by assumption) ?_
  rotate_left
  · intro w hSw; (try dsimp only at hSw); go_simp; first | done | with_reducible rfl
  try simp only [Act.put, List.getElem_toArray, List.getElem_cons_succ, List.getElem_cons_zero, List.setIfInBounds_toArray, List.set_cons_zero, List.set_cons_succ]
  refine wpAnyH_take (i := 5) (v := ?_) rfl (by kernel_rfl) (by kernel_rfl) (by kernel_rfl) (fun _ _ _ h => h) (Or.inl ⟨by rfl, ?_⟩) (by assumption) ?_
  rotate_left
  · intro w hSw; (try dsimp only at hSw); go_simp; first | done | with_reducible rfl
  try simp only [Act.put, List.getElem_toArray, List.getElem_cons_succ, List.getElem_cons_zero, List.setIfInBounds_toArray, List.set_cons_zero, List.set_cons_succ]
  refine wpAnyH_take (i := 6) (v := ?_) rfl (by kernel_rfl) (by kernel_rfl) (by kernel_rfl) (fun _ _ _ h => h) (Or.inl ⟨by rfl, ?_⟩) (by assumption) ?_
  rotate_left
  · intro w hSw; (try dsimp only at hSw); go_simp; first | done | with_reducible rfl
  try simp only [Act.put, List.getElem_toArray, List.getElem_cons_succ, List.getElem_cons_zero, List.setIfInBounds_toArray, List.set_cons_zero, List.set_cons_succ]
  refine wpAnyH_take (i := 7) (v := ?_) rfl (by kernel_rfl) (by kernel_rfl) (by kernel_rfl) (fun _ _ _ h => h) (Or.inl ⟨by rfl, ?_⟩) (by assumption) ?_
  rotate_left
  · intro w hSw; (try dsimp only at hSw); go_simp; first | done | with_reducible rfl
  try simp only [Act.put, List.getElem_toArray, List.getElem_cons_succ, List.getElem_cons_zero, List.setIfInBounds_toArray, List.set_cons_zero, List.set_cons_succ]
  refine wpAnyH_take (i := 8) (v := ?_) rfl (by kernel_rfl) (by kernel_rfl) (by kernel_rfl) (fun _ _ _ h => h) (Or.inl ⟨by rfl, ?_⟩) (by assumption) ?_
  rotate_left
  · intro w hSw; (try dsimp only at hSw); go_simp; first | done | with_reducible rfl
  try simp only [Act.put, List.getElem_toArray, List.getElem_cons_succ, List.getElem_cons_zero, List.setIfInBounds_toArray, List.set_cons_zero, List.set_cons_succ]
  refine wpAnyH_take (i := 9) (v := ?_) rfl (by kernel_rfl) (by kernel_rfl) (by kernel_rfl) (fun _ _ _ h => h) (Or.inl ⟨by rfl, ?_⟩) (by assumption) ?_
  rotate_left
  · intro w hSw; (try dsimp only at hSw); go_simp; first | done | with_reducible rfl
  try simp only [Act.put, List.getElem_toArray, List.getElem_cons_succ, List.getElem_cons_zero, List.setIfInBounds_toArray, List.set_cons_zero, List.set_cons_succ]
  refine wpAnyH_done (by kernel_rfl) ?_ _
  clear hHeld
  obtain ⟨W9, hW9, B9⟩ : ∃ W9, W9 = _ ∧ HB w h ab db _ _ W9 := ⟨_, rfl, B⟩
  rw [← hW9]
  clear B hW9
  have B := B9
  clear B9
  replace kX := B.x.cell
  replace fX := B.x.free
  replace kR := B.z.cell
  replace fR := B.z.free
  replace kH := B.H.cellsC (c := s.c) rfl
  go_wp2_with fail
  replace B := B.set 0 (.int .i64 4)
  refine bodyPost_ret (v := .agg #[.int .i64 (4), .int .i64 (j), .int .i64 (c + 1), .int .i64 (m), .int .u64 (a), .int .u64 (p), .bool (found), .int .i64 (tail), .int .i64 (cyc)]) (by simp [results, Try.results145, go_sem, kX, kR]) rfl ⟨rfl, ?_⟩
  exact B.done _ _ _ _ _ _ _ _ _


set_option maxRecDepth 100000 in
set_option maxHeartbeats 4000000 in
theorem passnext_found {w : World} {h ab db : Nat} {s : HS} (H : HAt w h ab db s) (line j c m a p tail cyc : Int) (found : Bool) (hc : -1000000 ≤ c ∧ c ≤ 1000000) (hl : s.c.cells ≤ c + 1) (hf : found = true) :
    Calls Try.prog 145 #[.pointer (some ⟨h, 0, none⟩), .agg #[.int .i64 (line), .int .i64 (j), .int .i64 (c), .int .i64 (m), .int .u64 (a), .int .u64 (p), .bool (found), .int .i64 (tail), .int .i64 (cyc)]] w fun e w' => e = .returned (.agg #[.int .i64 (3), .int .i64 (j), .int .i64 (c + 1), .int .i64 (m), .int .u64 (a), .int .u64 (p), .bool (found), .int .i64 (tail), .int .i64 (cyc)]) ∧ (HAt w' h ab db s ∧ Fr [] w w') := by
  have B := HB.start H [.int .i64 (line), .int .i64 (j), .int .i64 (c), .int .i64 (m), .int .u64 (a), .int .u64 (p), .bool true, .int .i64 (tail), .int .i64 (cyc)]
  have n0 := B.l1
  have n1 := B.l3
  have n2 := B.l2
  have hrr := H.right
  have hcw : IntKind.i64.wrap (c + 1) = c + 1 := w64 _ (by omega)
  have H0 := H
  subst hf
  have gl : decide (c + 1 < s.c.cells) = false := by simpa using hl

  clear H
  simp only [zCol] at B
  replace kX := B.x.cell
  replace fX := B.x.free
  replace kR := B.z.cell
  replace fR := B.z.free
  replace kH := B.H.cellsC (c := s.c) rfl
  go_enter Try.func145, Try.ntmps145
  go_upto_region 3 with fail
  replace B := HB.start H0 [.int .i64 (line), .int .i64 (j), .int .i64 (c + 1), .int .i64 (m), .int .u64 (a), .int .u64 (p), .bool true, .int .i64 (tail), .int .i64 (cyc)]
  simp only [zCol] at B
  replace kX := B.x.cell
  replace fX := B.x.free
  replace kR := B.z.cell
  replace fR := B.z.free
  replace kH := B.H.cellsC (c := s.c) rfl
  replace B := B.drew
  refine wp_region_held_drew (S := (fun (W : World) => W.cell? ⟨w.heap.size, 2, none⟩ = some (.int .i64 (c + 1)) ∧ W.cell? ⟨h, 1, none⟩ = some (.int .i64 s.c.cells) ∧ W.cell? ⟨h, 2, none⟩ = some (.int .i64 s.c.muts) ∧ W.cell? ⟨h, 3, none⟩ = some (.int .i64 s.c.regs) ∧ W.cell? ⟨h, 4, none⟩ = some (.int .i64 s.c.globs))) (by kernel_rfl) (by exact ⟨B.x.cell 2, B.H.blk.cell 1, B.H.blk.cell 2, B.H.blk.cell 3, B.H.blk.cell 4⟩) (fun hHeld => ?_)
  refine wpAnyH_take (i := 0) (v := ?_) rfl (by kernel_rfl) (by kernel_rfl) (by kernel_rfl) (fun _ _ _ h => h) (Or.inl ⟨by rfl, ?_⟩) (by assumption) ?_
  rotate_left
  · intro w hSw; (try dsimp only at hSw); go_simp; first | done | with_reducible rfl
  try simp only [Act.put, List.getElem_toArray, List.getElem_cons_succ, List.getElem_cons_zero, List.setIfInBounds_toArray, List.set_cons_zero, List.set_cons_succ]
  refine wpAnyH_take (i := 1) (v := ?_) rfl (by kernel_rfl) (by kernel_rfl) (by kernel_rfl) (fun _ _ _ h => h) (Or.inl ⟨by rfl, ?_⟩) (by assumption) ?_
  rotate_left
  · intro w hSw; (try dsimp only at hSw); go_simp; first | done | with_reducible rfl
  try simp only [Act.put, List.getElem_toArray, List.getElem_cons_succ, List.getElem_cons_zero, List.setIfInBounds_toArray, List.set_cons_zero, List.set_cons_succ]
  refine wpAnyH_take (i := 2) (v := ?_) rfl (by kernel_rfl) (by kernel_rfl) (by kernel_rfl) (fun _ _ _ h => h) (Or.inl ⟨by rfl, ?_⟩) (by assumption) ?_
  rotate_left
  · intro w hSw; (try dsimp only at hSw); go_simp; first | done | with_reducible rfl
  try simp only [Act.put, List.getElem_toArray, List.getElem_cons_succ, List.getElem_cons_zero, List.setIfInBounds_toArray, List.set_cons_zero, List.set_cons_succ]
  refine wpAnyH_take (i := 3) (v := ?_) rfl (by kernel_rfl) (by kernel_rfl) (by kernel_rfl) (fun _ _ _ h => h) (Or.inl ⟨by rfl, ?_⟩) (by assumption) ?_
  rotate_left
  · intro w hSw; (try dsimp only at hSw); go_simp; first | done | with_reducible rfl
  try simp only [Act.put, List.getElem_toArray, List.getElem_cons_succ, List.getElem_cons_zero, List.setIfInBounds_toArray, List.set_cons_zero, List.set_cons_succ]
  refine wpAnyH_take (i := 4) (v := ?_) rfl (by kernel_rfl) (by kernel_rfl) (by kernel_rfl) (fun _ _ _ h => h) (Or.inl ⟨by rfl, ?_⟩) (by assumption) ?_
  rotate_left
  · intro w hSw; (try dsimp only at hSw); go_simp; first | done | with_reducible rfl
  try simp only [Act.put, List.getElem_toArray, List.getElem_cons_succ, List.getElem_cons_zero, List.setIfInBounds_toArray, List.set_cons_zero, List.set_cons_succ]
  refine wpAnyH_take (i := 5) (v := ?_) rfl (by kernel_rfl) (by kernel_rfl) (by kernel_rfl) (fun _ _ _ h => h) (Or.inl ⟨by rfl, ?_⟩) (by assumption) ?_
  rotate_left
  · intro w hSw; (try dsimp only at hSw); go_simp; first | done | with_reducible rfl
  try simp only [Act.put, List.getElem_toArray, List.getElem_cons_succ, List.getElem_cons_zero, List.setIfInBounds_toArray, List.set_cons_zero, List.set_cons_succ]
  refine wpAnyH_take (i := 6) (v := ?_) rfl (by kernel_rfl) (by kernel_rfl) (by kernel_rfl) (fun _ _ _ h => h) (Or.inl ⟨by rfl, ?_⟩) (by assumption) ?_
  rotate_left
  · intro w hSw; (try dsimp only at hSw); go_simp; first | done | with_reducible rfl
  try simp only [Act.put, List.getElem_toArray, List.getElem_cons_succ, List.getElem_cons_zero, List.setIfInBounds_toArray, List.set_cons_zero, List.set_cons_succ]
  refine wpAnyH_take (i := 7) (v := ?_) rfl (by kernel_rfl) (by kernel_rfl) (by kernel_rfl) (fun _ _ _ h => h) (Or.inl ⟨by rfl, ?_⟩) (by assumption) ?_
  rotate_left
  · intro w hSw; (try dsimp only at hSw); go_simp; first | done | with_reducible rfl
  try simp only [Act.put, List.getElem_toArray, List.getElem_cons_succ, List.getElem_cons_zero, List.setIfInBounds_toArray, List.set_cons_zero, List.set_cons_succ]
  refine wpAnyH_take (i := 8) (v := ?_) rfl (by kernel_rfl) (by kernel_rfl) (by kernel_rfl) (fun _ _ _ h => h) (Or.inl ⟨by rfl, ?_⟩) (by assumption) ?_
  rotate_left
  · intro w hSw; (try dsimp only at hSw); go_simp; first | done | with_reducible rfl
  try simp only [Act.put, List.getElem_toArray, List.getElem_cons_succ, List.getElem_cons_zero, List.setIfInBounds_toArray, List.set_cons_zero, List.set_cons_succ]
  refine wpAnyH_take (i := 9) (v := ?_) rfl (by kernel_rfl) (by kernel_rfl) (by kernel_rfl) (fun _ _ _ h => h) (Or.inl ⟨by rfl, ?_⟩) (by assumption) ?_
  rotate_left
  · intro w hSw; (try dsimp only at hSw); go_simp; first | done | with_reducible rfl
  try simp only [Act.put, List.getElem_toArray, List.getElem_cons_succ, List.getElem_cons_zero, List.setIfInBounds_toArray, List.set_cons_zero, List.set_cons_succ]
  refine wpAnyH_done (by kernel_rfl) ?_ _
  clear hHeld
  obtain ⟨W9, hW9, B9⟩ : ∃ W9, W9 = _ ∧ HB w h ab db _ _ W9 := ⟨_, rfl, B⟩
  rw [← hW9]
  clear B hW9
  have B := B9
  clear B9
  replace kX := B.x.cell
  replace fX := B.x.free
  replace kR := B.z.cell
  replace fR := B.z.free
  replace kH := B.H.cellsC (c := s.c) rfl
  go_wp2_with fail
  replace B := B.set 0 (.int .i64 3)
  refine bodyPost_ret (v := .agg #[.int .i64 (3), .int .i64 (j), .int .i64 (c + 1), .int .i64 (m), .int .u64 (a), .int .u64 (p), .bool true, .int .i64 (tail), .int .i64 (cyc)]) (by simp [results, Try.results145, go_sem, kX, kR]) rfl ⟨rfl, ?_⟩
  exact B.done _ _ _ _ _ _ _ _ _


set_option maxRecDepth 100000 in
set_option maxHeartbeats 4000000 in
theorem passnext_over {w : World} {h ab db : Nat} {s : HS} (H : HAt w h ab db s) (line j c m a p tail cyc : Int) (found : Bool) (hc : -1000000 ≤ c ∧ c ≤ 1000000) (hl : s.c.cells ≤ c + 1) (hf : found = false) :
    Calls Try.prog 145 #[.pointer (some ⟨h, 0, none⟩), .agg #[.int .i64 (line), .int .i64 (j), .int .i64 (c), .int .i64 (m), .int .u64 (a), .int .u64 (p), .bool (found), .int .i64 (tail), .int .i64 (cyc)]] w fun e w' => e = .returned (.agg #[.int .i64 (10), .int .i64 (j), .int .i64 (c + 1), .int .i64 (0), .int .u64 (a), .int .u64 (p), .bool (found), .int .i64 (tail), .int .i64 (cyc)]) ∧ (HAt w' h ab db s ∧ Fr [] w w') := by
  have B := HB.start H [.int .i64 (line), .int .i64 (j), .int .i64 (c), .int .i64 (m), .int .u64 (a), .int .u64 (p), .bool false, .int .i64 (tail), .int .i64 (cyc)]
  have n0 := B.l1
  have n1 := B.l3
  have n2 := B.l2
  have hrr := H.right
  have hcw : IntKind.i64.wrap (c + 1) = c + 1 := w64 _ (by omega)
  have H0 := H
  subst hf
  have gl : decide (c + 1 < s.c.cells) = false := by simpa using hl

  clear H
  simp only [zCol] at B
  replace kX := B.x.cell
  replace fX := B.x.free
  replace kR := B.z.cell
  replace fR := B.z.free
  replace kH := B.H.cellsC (c := s.c) rfl
  go_enter Try.func145, Try.ntmps145
  go_upto_region 3 with fail
  replace B := HB.start H0 [.int .i64 (line), .int .i64 (j), .int .i64 (c + 1), .int .i64 (m), .int .u64 (a), .int .u64 (p), .bool false, .int .i64 (tail), .int .i64 (cyc)]
  simp only [zCol] at B
  replace kX := B.x.cell
  replace fX := B.x.free
  replace kR := B.z.cell
  replace fR := B.z.free
  replace kH := B.H.cellsC (c := s.c) rfl
  replace B := B.drew
  refine wp_region_held_drew (S := (fun (W : World) => W.cell? ⟨w.heap.size, 2, none⟩ = some (.int .i64 (c + 1)) ∧ W.cell? ⟨h, 1, none⟩ = some (.int .i64 s.c.cells) ∧ W.cell? ⟨h, 2, none⟩ = some (.int .i64 s.c.muts) ∧ W.cell? ⟨h, 3, none⟩ = some (.int .i64 s.c.regs) ∧ W.cell? ⟨h, 4, none⟩ = some (.int .i64 s.c.globs))) (by kernel_rfl) (by exact ⟨B.x.cell 2, B.H.blk.cell 1, B.H.blk.cell 2, B.H.blk.cell 3, B.H.blk.cell 4⟩) (fun hHeld => ?_)
  refine wpAnyH_take (i := 0) (v := ?_) rfl (by kernel_rfl) (by kernel_rfl) (by kernel_rfl) (fun _ _ _ h => h) (Or.inl ⟨by rfl, ?_⟩) (by assumption) ?_
  rotate_left
  · intro w hSw; (try dsimp only at hSw); go_simp; first | done | with_reducible rfl
  try simp only [Act.put, List.getElem_toArray, List.getElem_cons_succ, List.getElem_cons_zero, List.setIfInBounds_toArray, List.set_cons_zero, List.set_cons_succ]
  refine wpAnyH_take (i := 1) (v := ?_) rfl (by kernel_rfl) (by kernel_rfl) (by kernel_rfl) (fun _ _ _ h => h) (Or.inl ⟨by rfl, ?_⟩) (by assumption) ?_
  rotate_left
  · intro w hSw; (try dsimp only at hSw); go_simp; first | done | with_reducible rfl
  try simp only [Act.put, List.getElem_toArray, List.getElem_cons_succ, List.getElem_cons_zero, List.setIfInBounds_toArray, List.set_cons_zero, List.set_cons_succ]
  refine wpAnyH_take (i := 2) (v := ?_) rfl (by kernel_rfl) (by kernel_rfl) (by kernel_rfl) (fun _ _ _ h => h) (Or.inl ⟨by rfl, ?_⟩) (by assumption) ?_
  rotate_left
  · intro w hSw; (try dsimp only at hSw); go_simp; first | done | with_reducible rfl
  try simp only [Act.put, List.getElem_toArray, List.getElem_cons_succ, List.getElem_cons_zero, List.setIfInBounds_toArray, List.set_cons_zero, List.set_cons_succ]
  refine wpAnyH_take (i := 3) (v := ?_) rfl (by kernel_rfl) (by kernel_rfl) (by kernel_rfl) (fun _ _ _ h => h) (Or.inl ⟨by rfl, ?_⟩) (by assumption) ?_
  rotate_left
  · intro w hSw; (try dsimp only at hSw); go_simp; first | done | with_reducible rfl
  try simp only [Act.put, List.getElem_toArray, List.getElem_cons_succ, List.getElem_cons_zero, List.setIfInBounds_toArray, List.set_cons_zero, List.set_cons_succ]
  refine wpAnyH_take (i := 4) (v := ?_) rfl (by kernel_rfl) (by kernel_rfl) (by kernel_rfl) (fun _ _ _ h => h) (Or.inl ⟨by rfl, ?_⟩) (by assumption) ?_
  rotate_left
  · intro w hSw; (try dsimp only at hSw); go_simp; first | done | with_reducible rfl
  try simp only [Act.put, List.getElem_toArray, List.getElem_cons_succ, List.getElem_cons_zero, List.setIfInBounds_toArray, List.set_cons_zero, List.set_cons_succ]
  refine wpAnyH_take (i := 5) (v := ?_) rfl (by kernel_rfl) (by kernel_rfl) (by kernel_rfl) (fun _ _ _ h => h) (Or.inl ⟨by rfl, ?_⟩) (by assumption) ?_
  rotate_left
  · intro w hSw; (try dsimp only at hSw); go_simp; first | done | with_reducible rfl
  try simp only [Act.put, List.getElem_toArray, List.getElem_cons_succ, List.getElem_cons_zero, List.setIfInBounds_toArray, List.set_cons_zero, List.set_cons_succ]
  refine wpAnyH_take (i := 6) (v := ?_) rfl (by kernel_rfl) (by kernel_rfl) (by kernel_rfl) (fun _ _ _ h => h) (Or.inl ⟨by rfl, ?_⟩) (by assumption) ?_
  rotate_left
  · intro w hSw; (try dsimp only at hSw); go_simp; first | done | with_reducible rfl
  try simp only [Act.put, List.getElem_toArray, List.getElem_cons_succ, List.getElem_cons_zero, List.setIfInBounds_toArray, List.set_cons_zero, List.set_cons_succ]
  refine wpAnyH_take (i := 7) (v := ?_) rfl (by kernel_rfl) (by kernel_rfl) (by kernel_rfl) (fun _ _ _ h => h) (Or.inl ⟨by rfl, ?_⟩) (by assumption) ?_
  rotate_left
  · intro w hSw; (try dsimp only at hSw); go_simp; first | done | with_reducible rfl
  try simp only [Act.put, List.getElem_toArray, List.getElem_cons_succ, List.getElem_cons_zero, List.setIfInBounds_toArray, List.set_cons_zero, List.set_cons_succ]
  refine wpAnyH_take (i := 8) (v := ?_) rfl (by kernel_rfl) (by kernel_rfl) (by kernel_rfl) (fun _ _ _ h => h) (Or.inl ⟨by rfl, ?_⟩) (by assumption) ?_
  rotate_left
  · intro w hSw; (try dsimp only at hSw); go_simp; first | done | with_reducible rfl
  try simp only [Act.put, List.getElem_toArray, List.getElem_cons_succ, List.getElem_cons_zero, List.setIfInBounds_toArray, List.set_cons_zero, List.set_cons_succ]
  refine wpAnyH_take (i := 9) (v := ?_) rfl (by kernel_rfl) (by kernel_rfl) (by kernel_rfl) (fun _ _ _ h => h) (Or.inl ⟨by rfl, ?_⟩) (by assumption) ?_
  rotate_left
  · intro w hSw; (try dsimp only at hSw); go_simp; first | done | with_reducible rfl
  try simp only [Act.put, List.getElem_toArray, List.getElem_cons_succ, List.getElem_cons_zero, List.setIfInBounds_toArray, List.set_cons_zero, List.set_cons_succ]
  refine wpAnyH_done (by kernel_rfl) ?_ _
  clear hHeld
  obtain ⟨W9, hW9, B9⟩ : ∃ W9, W9 = _ ∧ HB w h ab db _ _ W9 := ⟨_, rfl, B⟩
  rw [← hW9]
  clear B hW9
  have B := B9
  clear B9
  replace kX := B.x.cell
  replace fX := B.x.free
  replace kR := B.z.cell
  replace fR := B.z.free
  replace kH := B.H.cellsC (c := s.c) rfl
  go_wp2_with fail
  replace B := B.set 3 (.int .i64 0)
  replace B := B.set 0 (.int .i64 10)
  refine bodyPost_ret (v := .agg #[.int .i64 (10), .int .i64 (j), .int .i64 (c + 1), .int .i64 (0), .int .u64 (a), .int .u64 (p), .bool false, .int .i64 (tail), .int .i64 (cyc)]) (by simp [results, Try.results145, go_sem, kX, kR]) rfl ⟨rfl, ?_⟩
  exact B.done _ _ _ _ _ _ _ _ _


set_option maxRecDepth 100000 in
set_option maxHeartbeats 4000000 in
theorem passchild_y {w : World} {h ab db hb xb : Nat} {s : HS} {line j c m a p tail cyc at_ v : Int} {found : Bool} (b : Blk w hb 46 [.pointer (some ⟨h, 0, none⟩)]) (x : Blk w xb 81 [.int .i64 (line), .int .i64 (j), .int .i64 (c), .int .i64 (m), .int .u64 (a), .int .u64 (p), .bool (found), .int .i64 (tail), .int .i64 (cyc)]) (H : HAt w h ab db s) (d1 : xb ≠ h) (d2 : xb ≠ hb) (d3 : xb ≠ ab) (d4 : xb ≠ db) (d5 : hb ≠ h) (d6 : hb ≠ db) (hu : wAt s.ws at_ = v) (hv0 : 0 ≤ v) (hv1 : v < 18446744073709551616) (hm : -1000000 ≤ line ∧ line ≤ 1000000) (hv : isCell v = true) :
    Calls Try.prog 143 #[.int .i64 at_, .pointer (some ⟨hb, 0, none⟩), .pointer (some ⟨xb, 0, none⟩)] w fun e w' => e = .returned (.tuple #[]) ∧ HAt w' h ab db (s.doIt (aLoad at_)) ∧ Blk w' xb 81 [.int .i64 (line + 1), .int .i64 (j), .int .i64 (c), .int .i64 (m), .int .u64 (v), .int .u64 (p), .bool (found), .int .i64 (tail), .int .i64 (cyc)] ∧ Fr [h, db, xb] w w' := by
  have hm2 : IntKind.i64.wrap (line + 2) = line + 2 := w64 _ (by omega)
  have hm1 : IntKind.i64.wrap (line + 2 - 1) = line + 1 := (w64 _ (by omega)).trans (by omega)
  have kx := x.cell
  have fx := x.free
  have kb := b.cell
  have nx : xb ∉ [h, db] := by simp [d1, d4]
  have nb : hb ∉ [h, db] := by simp [d5, d6]
  have HI := hid (fun W => isCell_any v hv0 hv1 W)
  rw [hv] at HI
  go_enter Try.func143, Try.ntmps143
  go_wp2_with (first | (go_at_call 126; refine (load_u hu H).mono ?_; rintro e w2 ⟨rfl, HH, hF2⟩; (replace x := x.kept hF2 nx); (replace b := b.kept hF2 nb); (replace kx := x.cell); (replace fx := x.free); (replace kb := b.cell)) | (go_at_call 144; refine (HI.out _).mono ?_; rintro e w2 ⟨rfl, rfl⟩))
  replace x := x.set 4 (.int .u64 v)
  replace x := x.set 0 (.int .i64 (line + 2))
  replace x := x.set 0 (.int .i64 (line + 1))
  simp only [List.set_cons_zero, List.set_cons_succ] at x
  go_end0
  exact ⟨rfl, (((HH).other (p := ⟨xb, 4, none⟩) (Ne.symm d1) (Ne.symm d3) (Ne.symm d4) (.int .u64 v)).other (p := ⟨xb, 0, none⟩) (Ne.symm d1) (Ne.symm d3) (Ne.symm d4) (.int .i64 (line + 2))).other (p := ⟨xb, 0, none⟩) (Ne.symm d1) (Ne.symm d3) (Ne.symm d4) (.int .i64 (line + 1)), x, ((((hF2.mono (T := [h, db, xb]) (by intro k hk; simp at hk ⊢; omega))).setCell (p := ⟨xb, 4, none⟩) (by simp) (.int .u64 v)).setCell (p := ⟨xb, 0, none⟩) (by simp) (.int .i64 (line + 2))).setCell (p := ⟨xb, 0, none⟩) (by simp) (.int .i64 (line + 1))⟩

set_option maxRecDepth 100000 in
set_option maxHeartbeats 4000000 in
theorem passchild_n {w : World} {h ab db hb xb : Nat} {s : HS} {line j c m a p tail cyc at_ v : Int} {found : Bool} (b : Blk w hb 46 [.pointer (some ⟨h, 0, none⟩)]) (x : Blk w xb 81 [.int .i64 (line), .int .i64 (j), .int .i64 (c), .int .i64 (m), .int .u64 (a), .int .u64 (p), .bool (found), .int .i64 (tail), .int .i64 (cyc)]) (H : HAt w h ab db s) (d1 : xb ≠ h) (d2 : xb ≠ hb) (d3 : xb ≠ ab) (d4 : xb ≠ db) (d5 : hb ≠ h) (d6 : hb ≠ db) (hu : wAt s.ws at_ = v) (hv0 : 0 ≤ v) (hv1 : v < 18446744073709551616) (hm : -1000000 ≤ line ∧ line ≤ 1000000) (hv : isCell v = false) :
    Calls Try.prog 143 #[.int .i64 at_, .pointer (some ⟨hb, 0, none⟩), .pointer (some ⟨xb, 0, none⟩)] w fun e w' => e = .returned (.tuple #[]) ∧ HAt w' h ab db (s.doIt (aLoad at_)) ∧ Blk w' xb 81 [.int .i64 (line + 2), .int .i64 (j), .int .i64 (c), .int .i64 (m), .int .u64 (v), .int .u64 (p), .bool (found), .int .i64 (tail), .int .i64 (cyc)] ∧ Fr [h, db, xb] w w' := by
  have hm2 : IntKind.i64.wrap (line + 2) = line + 2 := w64 _ (by omega)
  have hm1 : IntKind.i64.wrap (line + 2 - 1) = line + 1 := (w64 _ (by omega)).trans (by omega)
  have kx := x.cell
  have fx := x.free
  have kb := b.cell
  have nx : xb ∉ [h, db] := by simp [d1, d4]
  have nb : hb ∉ [h, db] := by simp [d5, d6]
  have HI := hid (fun W => isCell_any v hv0 hv1 W)
  rw [hv] at HI
  go_enter Try.func143, Try.ntmps143
  go_wp2_with (first | (go_at_call 126; refine (load_u hu H).mono ?_; rintro e w2 ⟨rfl, HH, hF2⟩; (replace x := x.kept hF2 nx); (replace b := b.kept hF2 nb); (replace kx := x.cell); (replace fx := x.free); (replace kb := b.cell)) | (go_at_call 144; refine (HI.out _).mono ?_; rintro e w2 ⟨rfl, rfl⟩))
  replace x := x.set 4 (.int .u64 v)
  replace x := x.set 0 (.int .i64 (line + 2))
  simp only [List.set_cons_zero, List.set_cons_succ] at x
  go_end0
  exact ⟨rfl, ((HH).other (p := ⟨xb, 4, none⟩) (Ne.symm d1) (Ne.symm d3) (Ne.symm d4) (.int .u64 v)).other (p := ⟨xb, 0, none⟩) (Ne.symm d1) (Ne.symm d3) (Ne.symm d4) (.int .i64 (line + 2)), x, (((hF2.mono (T := [h, db, xb]) (by intro k hk; simp at hk ⊢; omega))).setCell (p := ⟨xb, 4, none⟩) (by simp) (.int .u64 v)).setCell (p := ⟨xb, 0, none⟩) (by simp) (.int .i64 (line + 2))⟩

set_option maxRecDepth 100000 in
set_option maxHeartbeats 4000000 in
theorem pa3 {w : World} {h ab db : Nat} {s : HS} (H : HAt w h ab db s) (j c m a p tail cyc : Int) (found : Bool)  :
    Calls Try.prog 55 #[.pointer (some ⟨h, 0, none⟩), .agg #[.int .i64 (3), .int .i64 (j), .int .i64 (c), .int .i64 (m), .int .u64 (a), .int .u64 (p), .bool (found), .int .i64 (tail), .int .i64 (cyc)]] w fun e w' => e = .returned (.tuple #[.agg #[.int .i64 (4), .int .i64 (j), .int .i64 (0), .int .i64 (m), .int .u64 (a), .int .u64 (p), .bool (false), .int .i64 (tail), .int .i64 (cyc)], .bool true]) ∧ (HAt w' h ab db (s.doIt (aStore 2 0)) ∧ Fr [h, db] w w') := by
  have hmf : ∀ (fn : Fn) (first cap : Array Value) (w : World), (Instr.makeFunc fn first cap).run Try.prog w = .ok (.func fn first cap) w := fun _ _ _ _ => rfl
  have B := CB.start H [.int .i64 (3), .int .i64 (j), .int .i64 (c), .int .i64 (m), .int .u64 (a), .int .u64 (p), .bool (found), .int .i64 (tail), .int .i64 (cyc)]
  have n0 := B.l1
  have n1 := B.l3
  have n2 := B.l2
  have hrr := H.right
  clear H
  simp only [zCol] at B
  replace kX := B.x.cell
  replace fX := B.x.free
  replace kB := B.b.cell
  replace kR := B.r.cell
  replace fR := B.r.free
  replace kH := B.H.cellsC (c := s.c) rfl
  go_enter Try.func55, Try.ntmps55
  go_wp2_with (first | (go_at_call 39; refine (hstore_any B.H _ _ (by omega)).mono ?_; rintro e w2 ⟨rfl, HH, hF2⟩; (replace B := B.hand HH hF2); clear HH; (replace kX := B.x.cell); (replace fX := B.x.free); (replace kB := B.b.cell); (replace kR := B.r.cell); (replace fR := B.r.free); (replace kH := B.H.cellsC (c := s.c) rfl)))
  replace B := B.set 2 (.int .i64 0)
  replace B := B.set 6 (.bool false)
  replace B := B.set 0 (.int .i64 4)
  refine bodyPost_ret (v := .tuple #[.agg #[.int .i64 (4), .int .i64 (j), .int .i64 (0), .int .i64 (m), .int .u64 (a), .int .u64 (p), .bool (false), .int .i64 (tail), .int .i64 (cyc)], .bool true]) (by simp [results, Try.results55, go_sem, kX, kR]) rfl ⟨rfl, ?_⟩
  exact B.done _ _ _ _ _ _ _ _ _


set_option maxRecDepth 100000 in
set_option maxHeartbeats 4000000 in
theorem pa4g {w : World} {h ab db : Nat} {s : HS} (H : HAt w h ab db s) (j c m a p tail cyc : Int) (found : Bool) (u : Int) (hu : wAt s.ws (s.c.cellP 2 c) = u) (h1 : (u != 1) = false) :
    Calls Try.prog 55 #[.pointer (some ⟨h, 0, none⟩), .agg #[.int .i64 (4), .int .i64 (j), .int .i64 (c), .int .i64 (m), .int .u64 (a), .int .u64 (p), .bool (found), .int .i64 (tail), .int .i64 (cyc)]] w fun e w' => e = .returned (.tuple #[.agg #[.int .i64 (5), .int .i64 (j), .int .i64 (c), .int .i64 (m), .int .u64 (a), .int .u64 (p), .bool (found), .int .i64 (tail), .int .i64 (cyc)], .bool true]) ∧ (HAt w' h ab db (s.doIt (aLoad (s.c.cellP 2 c))) ∧ Fr [h, db] w w') := by
  have hmf : ∀ (fn : Fn) (first cap : Array Value) (w : World), (Instr.makeFunc fn first cap).run Try.prog w = .ok (.func fn first cap) w := fun _ _ _ _ => rfl
  have B := CB.start H [.int .i64 (4), .int .i64 (j), .int .i64 (c), .int .i64 (m), .int .u64 (a), .int .u64 (p), .bool (found), .int .i64 (tail), .int .i64 (cyc)]
  have n0 := B.l1
  have n1 := B.l3
  have n2 := B.l2
  have hrr := H.right
  clear H
  simp only [zCol] at B
  replace kX := B.x.cell
  replace fX := B.x.free
  replace kB := B.b.cell
  replace kR := B.r.cell
  replace fR := B.r.free
  replace kH := B.H.cellsC (c := s.c) rfl
  go_enter Try.func55, Try.ntmps55
  go_upto_region 14 with fail
  replace B := B.drew
  refine wp_region_held_drew (S := (fun (W : World) => W.cell? ⟨w.heap.size, 0, none⟩ = some (.pointer (some ⟨h, 0, none⟩)) ∧ W.cell? ⟨w.heap.size + 1, 2, none⟩ = some (.int .i64 c) ∧ W.cell? ⟨h, 1, none⟩ = some (.int .i64 s.c.cells) ∧ W.cell? ⟨h, 2, none⟩ = some (.int .i64 s.c.muts) ∧ W.cell? ⟨h, 3, none⟩ = some (.int .i64 s.c.regs) ∧ W.cell? ⟨h, 4, none⟩ = some (.int .i64 s.c.globs))) (by kernel_rfl) (by exact ⟨B.b.cell 0, B.x.cell 2, B.H.blk.cell 1, B.H.blk.cell 2, B.H.blk.cell 3, B.H.blk.cell 4⟩) (fun hHeld => ?_)
  refine wpAnyH_take (i := 0) (v := ?_) rfl (by kernel_rfl) (by kernel_rfl) (by kernel_rfl) (fun _ _ _ h => h) (Or.inl ⟨by rfl, ?_⟩) (by assumption) ?_
  rotate_left
  · intro w hSw; (try dsimp only at hSw); go_simp; first | done | with_reducible rfl
  try simp only [Act.put, List.getElem_toArray, List.getElem_cons_succ, List.getElem_cons_zero, List.setIfInBounds_toArray, List.set_cons_zero, List.set_cons_succ]
  refine wpAnyH_take (i := 1) (v := ?_) rfl (by kernel_rfl) (by kernel_rfl) (by kernel_rfl) (fun _ _ _ h => h) (Or.inl ⟨by rfl, ?_⟩) (by assumption) ?_
  rotate_left
  · intro w hSw; (try dsimp only at hSw); go_simp; first | done | with_reducible rfl
  try simp only [Act.put, List.getElem_toArray, List.getElem_cons_succ, List.getElem_cons_zero, List.setIfInBounds_toArray, List.set_cons_zero, List.set_cons_succ]
  refine wpAnyH_take (i := 2) (v := ?_) rfl (by kernel_rfl) (by kernel_rfl) (by kernel_rfl) (fun _ _ _ h => h) (Or.inl ⟨by rfl, ?_⟩) (by assumption) ?_
  rotate_left
  · intro w hSw; (try dsimp only at hSw); go_simp; first | done | with_reducible rfl
  try simp only [Act.put, List.getElem_toArray, List.getElem_cons_succ, List.getElem_cons_zero, List.setIfInBounds_toArray, List.set_cons_zero, List.set_cons_succ]
  refine wpAnyH_take (i := 3) (v := ?_) rfl (by kernel_rfl) (by kernel_rfl) (by kernel_rfl) (fun _ _ _ h => h) (Or.inl ⟨by rfl, ?_⟩) (by assumption) ?_
  rotate_left
  · intro w hSw; (try dsimp only at hSw); go_simp; first | done | with_reducible rfl
  try simp only [Act.put, List.getElem_toArray, List.getElem_cons_succ, List.getElem_cons_zero, List.setIfInBounds_toArray, List.set_cons_zero, List.set_cons_succ]
  refine wpAnyH_take (i := 4) (v := ?_) rfl (by kernel_rfl) (by kernel_rfl) (by kernel_rfl) (fun _ _ _ h => h) (Or.inl ⟨by rfl, ?_⟩) (by assumption) ?_
  rotate_left
  · intro w hSw; (try dsimp only at hSw); go_simp; first | done | with_reducible rfl
  try simp only [Act.put, List.getElem_toArray, List.getElem_cons_succ, List.getElem_cons_zero, List.setIfInBounds_toArray, List.set_cons_zero, List.set_cons_succ]
  refine wpAnyH_take (i := 5) (v := ?_) rfl (by kernel_rfl) (by kernel_rfl) (by kernel_rfl) (fun _ _ _ h => h) (Or.inl ⟨by rfl, ?_⟩) (by assumption) ?_
  rotate_left
  · intro w hSw; (try dsimp only at hSw); go_simp; first | done | with_reducible rfl
  try simp only [Act.put, List.getElem_toArray, List.getElem_cons_succ, List.getElem_cons_zero, List.setIfInBounds_toArray, List.set_cons_zero, List.set_cons_succ]
  refine wpAnyH_take (i := 6) (v := ?_) rfl (by kernel_rfl) (by kernel_rfl) (by kernel_rfl) (fun _ _ _ h => h) (Or.inl ⟨by rfl, ?_⟩) (by assumption) ?_
  rotate_left
  · intro w hSw; (try dsimp only at hSw); go_simp; first | done | with_reducible rfl
  try simp only [Act.put, List.getElem_toArray, List.getElem_cons_succ, List.getElem_cons_zero, List.setIfInBounds_toArray, List.set_cons_zero, List.set_cons_succ]
  refine wpAnyH_ready (rs := [7]) (by kernel_rfl) (by simp) ?_
  refine AllReadyH.cons rfl (fun K hK => ?_) AllReadyH.nil
  go_simp
  (go_at_call 136; refine (colour_any hrr _ _).mono ?_; rintro e w2 ⟨rfl, hF2⟩; (replace B := B.kept0 hF2); (replace kX := B.x.cell); (replace fX := B.x.free); (replace kB := B.b.cell); (replace kR := B.r.cell); (replace fR := B.r.free); (replace kH := B.H.cellsC (c := s.c) rfl))
  go_wp2_with fail
  refine hK.out _ _ (by exact ⟨B.b.cell 0, B.x.cell 2, B.H.blk.cell 1, B.H.blk.cell 2, B.H.blk.cell 3, B.H.blk.cell 4⟩) (fun hHeld => ?_)
  clear hK K
  try simp only [Act.put, List.getElem_toArray, List.getElem_cons_succ, List.getElem_cons_zero, List.setIfInBounds_toArray, List.set_cons_zero, List.set_cons_succ]
  refine wpAnyH_ready (rs := [8]) (by kernel_rfl) (by simp) ?_
  refine AllReadyH.cons rfl (fun K hK => ?_) AllReadyH.nil
  go_simp
  (go_at_call 126; refine (load_u hu B.H).mono ?_; rintro e w2 ⟨rfl, HH, hF2⟩; (replace B := B.hand HH hF2); clear HH; (replace kX := B.x.cell); (replace fX := B.x.free); (replace kB := B.b.cell); (replace kR := B.r.cell); (replace fR := B.r.free); (replace kH := B.H.cellsC (c := s.c) rfl))
  go_wp2_with fail
  refine hK.out _ _ (by exact ⟨B.b.cell 0, B.x.cell 2, B.H.blk.cell 1, B.H.blk.cell 2, B.H.blk.cell 3, B.H.blk.cell 4⟩) (fun hHeld => ?_)
  clear hK K
  try simp only [Act.put, List.getElem_toArray, List.getElem_cons_succ, List.getElem_cons_zero, List.setIfInBounds_toArray, List.set_cons_zero, List.set_cons_succ]
  refine wpAnyH_take (i := 9) (v := ?_) rfl (by kernel_rfl) (by kernel_rfl) (by kernel_rfl) (fun _ _ _ h => h) (Or.inl ⟨by rfl, ?_⟩) (by assumption) ?_
  rotate_left
  · intro w hSw; (try dsimp only at hSw); go_simp; first | done | with_reducible rfl
  try simp only [Act.put, List.getElem_toArray, List.getElem_cons_succ, List.getElem_cons_zero, List.setIfInBounds_toArray, List.set_cons_zero, List.set_cons_succ]
  refine wpAnyH_done (by kernel_rfl) ?_ _
  clear hHeld
  obtain ⟨W9, hW9, B9⟩ : ∃ W9, W9 = _ ∧ CB w h ab db _ _ W9 := ⟨_, rfl, B⟩
  rw [← hW9]
  clear B hW9
  have B := B9
  clear B9
  replace kX := B.x.cell
  replace fX := B.x.free
  replace kB := B.b.cell
  replace kR := B.r.cell
  replace fR := B.r.free
  replace kH := B.H.cellsC (c := s.c) rfl
  go_wp2_with fail
  replace B := B.set 0 (.int .i64 5)
  refine bodyPost_ret (v := .tuple #[.agg #[.int .i64 (5), .int .i64 (j), .int .i64 (c), .int .i64 (m), .int .u64 (a), .int .u64 (p), .bool (found), .int .i64 (tail), .int .i64 (cyc)], .bool true]) (by simp [results, Try.results55, go_sem, kX, kR]) rfl ⟨rfl, ?_⟩
  exact B.done _ _ _ _ _ _ _ _ _


set_option maxRecDepth 100000 in
set_option maxHeartbeats 4000000 in
theorem pa4m {w : World} {h ab db : Nat} {s : HS} (H : HAt w h ab db s) (j c m a p tail cyc : Int) (found : Bool) (u : Int) (hu : wAt s.ws (s.c.cellP 2 c) = u) (h1 : (u != 1) = true) (hc : -1000000 ≤ c ∧ c ≤ 1000000) (hl : c + 1 < s.c.cells) :
    Calls Try.prog 55 #[.pointer (some ⟨h, 0, none⟩), .agg #[.int .i64 (4), .int .i64 (j), .int .i64 (c), .int .i64 (m), .int .u64 (a), .int .u64 (p), .bool (found), .int .i64 (tail), .int .i64 (cyc)]] w fun e w' => e = .returned (.tuple #[.agg #[.int .i64 (4), .int .i64 (j), .int .i64 (c + 1), .int .i64 (m), .int .u64 (a), .int .u64 (p), .bool (found), .int .i64 (tail), .int .i64 (cyc)], .bool true]) ∧ (HAt w' h ab db (s.doIt (aLoad (s.c.cellP 2 c))) ∧ Fr [h, db] w w') := by
  have hmf : ∀ (fn : Fn) (first cap : Array Value) (w : World), (Instr.makeFunc fn first cap).run Try.prog w = .ok (.func fn first cap) w := fun _ _ _ _ => rfl
  have B := CB.start H [.int .i64 (4), .int .i64 (j), .int .i64 (c), .int .i64 (m), .int .u64 (a), .int .u64 (p), .bool (found), .int .i64 (tail), .int .i64 (cyc)]
  have n0 := B.l1
  have n1 := B.l3
  have n2 := B.l2
  have hrr := H.right
  (try replace hl := hid hl)
  (try have hlH := hl)
  (try replace hf := hid hf)
  (try have hfH := hf)

  clear H
  simp only [zCol] at B
  replace kX := B.x.cell
  replace fX := B.x.free
  replace kB := B.b.cell
  replace kR := B.r.cell
  replace fR := B.r.free
  replace kH := B.H.cellsC (c := s.c) rfl
  go_enter Try.func55, Try.ntmps55
  go_upto_region 14 with fail
  replace B := B.drew
  refine wp_region_held_drew (S := (fun (W : World) => W.cell? ⟨w.heap.size, 0, none⟩ = some (.pointer (some ⟨h, 0, none⟩)) ∧ W.cell? ⟨w.heap.size + 1, 2, none⟩ = some (.int .i64 c) ∧ W.cell? ⟨h, 1, none⟩ = some (.int .i64 s.c.cells) ∧ W.cell? ⟨h, 2, none⟩ = some (.int .i64 s.c.muts) ∧ W.cell? ⟨h, 3, none⟩ = some (.int .i64 s.c.regs) ∧ W.cell? ⟨h, 4, none⟩ = some (.int .i64 s.c.globs))) (by kernel_rfl) (by exact ⟨B.b.cell 0, B.x.cell 2, B.H.blk.cell 1, B.H.blk.cell 2, B.H.blk.cell 3, B.H.blk.cell 4⟩) (fun hHeld => ?_)
  refine wpAnyH_take (i := 0) (v := ?_) rfl (by kernel_rfl) (by kernel_rfl) (by kernel_rfl) (fun _ _ _ h => h) (Or.inl ⟨by rfl, ?_⟩) (by assumption) ?_
  rotate_left
  · intro w hSw; (try dsimp only at hSw); go_simp; first | done | with_reducible rfl
  try simp only [Act.put, List.getElem_toArray, List.getElem_cons_succ, List.getElem_cons_zero, List.setIfInBounds_toArray, List.set_cons_zero, List.set_cons_succ]
  refine wpAnyH_take (i := 1) (v := ?_) rfl (by kernel_rfl) (by kernel_rfl) (by kernel_rfl) (fun _ _ _ h => h) (Or.inl ⟨by rfl, ?_⟩) (by assumption) ?_
  rotate_left
  · intro w hSw; (try dsimp only at hSw); go_simp; first | done | with_reducible rfl
  try simp only [Act.put, List.getElem_toArray, List.getElem_cons_succ, List.getElem_cons_zero, List.setIfInBounds_toArray, List.set_cons_zero, List.set_cons_succ]
  refine wpAnyH_take (i := 2) (v := ?_) rfl (by kernel_rfl) (by kernel_rfl) (by kernel_rfl) (fun _ _ _ h => h) (Or.inl ⟨by rfl, ?_⟩) (by assumption) ?_
  rotate_left
  · intro w hSw; (try dsimp only at hSw); go_simp; first | done | with_reducible rfl
  try simp only [Act.put, List.getElem_toArray, List.getElem_cons_succ, List.getElem_cons_zero, List.setIfInBounds_toArray, List.set_cons_zero, List.set_cons_succ]
  refine wpAnyH_take (i := 3) (v := ?_) rfl (by kernel_rfl) (by kernel_rfl) (by kernel_rfl) (fun _ _ _ h => h) (Or.inl ⟨by rfl, ?_⟩) (by assumption) ?_
  rotate_left
  · intro w hSw; (try dsimp only at hSw); go_simp; first | done | with_reducible rfl
  try simp only [Act.put, List.getElem_toArray, List.getElem_cons_succ, List.getElem_cons_zero, List.setIfInBounds_toArray, List.set_cons_zero, List.set_cons_succ]
  refine wpAnyH_take (i := 4) (v := ?_) rfl (by kernel_rfl) (by kernel_rfl) (by kernel_rfl) (fun _ _ _ h => h) (Or.inl ⟨by rfl, ?_⟩) (by assumption) ?_
  rotate_left
  · intro w hSw; (try dsimp only at hSw); go_simp; first | done | with_reducible rfl
  try simp only [Act.put, List.getElem_toArray, List.getElem_cons_succ, List.getElem_cons_zero, List.setIfInBounds_toArray, List.set_cons_zero, List.set_cons_succ]
  refine wpAnyH_take (i := 5) (v := ?_) rfl (by kernel_rfl) (by kernel_rfl) (by kernel_rfl) (fun _ _ _ h => h) (Or.inl ⟨by rfl, ?_⟩) (by assumption) ?_
  rotate_left
  · intro w hSw; (try dsimp only at hSw); go_simp; first | done | with_reducible rfl
  try simp only [Act.put, List.getElem_toArray, List.getElem_cons_succ, List.getElem_cons_zero, List.setIfInBounds_toArray, List.set_cons_zero, List.set_cons_succ]
  refine wpAnyH_take (i := 6) (v := ?_) rfl (by kernel_rfl) (by kernel_rfl) (by kernel_rfl) (fun _ _ _ h => h) (Or.inl ⟨by rfl, ?_⟩) (by assumption) ?_
  rotate_left
  · intro w hSw; (try dsimp only at hSw); go_simp; first | done | with_reducible rfl
  try simp only [Act.put, List.getElem_toArray, List.getElem_cons_succ, List.getElem_cons_zero, List.setIfInBounds_toArray, List.set_cons_zero, List.set_cons_succ]
  refine wpAnyH_ready (rs := [7]) (by kernel_rfl) (by simp) ?_
  refine AllReadyH.cons rfl (fun K hK => ?_) AllReadyH.nil
  go_simp
  (go_at_call 136; refine (colour_any hrr _ _).mono ?_; rintro e w2 ⟨rfl, hF2⟩; (replace B := B.kept0 hF2); (replace kX := B.x.cell); (replace fX := B.x.free); (replace kB := B.b.cell); (replace kR := B.r.cell); (replace fR := B.r.free); (replace kH := B.H.cellsC (c := s.c) rfl))
  go_wp2_with fail
  refine hK.out _ _ (by exact ⟨B.b.cell 0, B.x.cell 2, B.H.blk.cell 1, B.H.blk.cell 2, B.H.blk.cell 3, B.H.blk.cell 4⟩) (fun hHeld => ?_)
  clear hK K
  try simp only [Act.put, List.getElem_toArray, List.getElem_cons_succ, List.getElem_cons_zero, List.setIfInBounds_toArray, List.set_cons_zero, List.set_cons_succ]
  refine wpAnyH_ready (rs := [8]) (by kernel_rfl) (by simp) ?_
  refine AllReadyH.cons rfl (fun K hK => ?_) AllReadyH.nil
  go_simp
  (go_at_call 126; refine (load_u hu B.H).mono ?_; rintro e w2 ⟨rfl, HH, hF2⟩; (replace B := B.hand HH hF2); clear HH; (replace kX := B.x.cell); (replace fX := B.x.free); (replace kB := B.b.cell); (replace kR := B.r.cell); (replace fR := B.r.free); (replace kH := B.H.cellsC (c := s.c) rfl))
  go_wp2_with fail
  refine hK.out _ _ (by exact ⟨B.b.cell 0, B.x.cell 2, B.H.blk.cell 1, B.H.blk.cell 2, B.H.blk.cell 3, B.H.blk.cell 4⟩) (fun hHeld => ?_)
  clear hK K
  try simp only [Act.put, List.getElem_toArray, List.getElem_cons_succ, List.getElem_cons_zero, List.setIfInBounds_toArray, List.set_cons_zero, List.set_cons_succ]
  refine wpAnyH_take (i := 9) (v := ?_) rfl (by kernel_rfl) (by kernel_rfl) (by kernel_rfl) (fun _ _ _ h => h) (Or.inl ⟨by rfl, ?_⟩) (by assumption) ?_
  rotate_left
  · intro w hSw; (try dsimp only at hSw); go_simp; first | done | with_reducible rfl
  try simp only [Act.put, List.getElem_toArray, List.getElem_cons_succ, List.getElem_cons_zero, List.setIfInBounds_toArray, List.set_cons_zero, List.set_cons_succ]
  refine wpAnyH_done (by kernel_rfl) ?_ _
  clear hHeld
  obtain ⟨W9, hW9, B9⟩ : ∃ W9, W9 = _ ∧ CB w h ab db _ _ W9 := ⟨_, rfl, B⟩
  rw [← hW9]
  clear B hW9
  have B := B9
  clear B9
  replace kX := B.x.cell
  replace fX := B.x.free
  replace kB := B.b.cell
  replace kR := B.r.cell
  replace fR := B.r.free
  replace kH := B.H.cellsC (c := s.c) rfl
  go_wp2_with (first | (go_at_call 145; refine (passnext_more B.H _ _ _ _ _ _ _ _ _ hc hlH.out).mono ?_; rintro e w2 ⟨rfl, _, hF2⟩; (replace B := B.kept0 hF2); (replace kX := B.x.cell); (replace fX := B.x.free); (replace kB := B.b.cell); (replace kR := B.r.cell); (replace fR := B.r.free); (replace kH := B.H.cellsC (c := s.c) rfl)))
  refine bodyPost_ret (v := .tuple #[.agg #[.int .i64 (4), .int .i64 (j), .int .i64 (c + 1), .int .i64 (m), .int .u64 (a), .int .u64 (p), .bool (found), .int .i64 (tail), .int .i64 (cyc)], .bool true]) (by simp [results, Try.results55, go_sem, kX, kR]) rfl ⟨rfl, ?_⟩
  exact B.done _ _ _ _ _ _ _ _ _


set_option maxRecDepth 100000 in
set_option maxHeartbeats 4000000 in
theorem pa4f {w : World} {h ab db : Nat} {s : HS} (H : HAt w h ab db s) (j c m a p tail cyc : Int) (found : Bool) (u : Int) (hu : wAt s.ws (s.c.cellP 2 c) = u) (h1 : (u != 1) = true) (hc : -1000000 ≤ c ∧ c ≤ 1000000) (hl : s.c.cells ≤ c + 1) (hf : found = true) :
    Calls Try.prog 55 #[.pointer (some ⟨h, 0, none⟩), .agg #[.int .i64 (4), .int .i64 (j), .int .i64 (c), .int .i64 (m), .int .u64 (a), .int .u64 (p), .bool (found), .int .i64 (tail), .int .i64 (cyc)]] w fun e w' => e = .returned (.tuple #[.agg #[.int .i64 (3), .int .i64 (j), .int .i64 (c + 1), .int .i64 (m), .int .u64 (a), .int .u64 (p), .bool (found), .int .i64 (tail), .int .i64 (cyc)], .bool true]) ∧ (HAt w' h ab db (s.doIt (aLoad (s.c.cellP 2 c))) ∧ Fr [h, db] w w') := by
  have hmf : ∀ (fn : Fn) (first cap : Array Value) (w : World), (Instr.makeFunc fn first cap).run Try.prog w = .ok (.func fn first cap) w := fun _ _ _ _ => rfl
  have B := CB.start H [.int .i64 (4), .int .i64 (j), .int .i64 (c), .int .i64 (m), .int .u64 (a), .int .u64 (p), .bool (found), .int .i64 (tail), .int .i64 (cyc)]
  have n0 := B.l1
  have n1 := B.l3
  have n2 := B.l2
  have hrr := H.right
  (try replace hl := hid hl)
  (try have hlH := hl)
  (try replace hf := hid hf)
  (try have hfH := hf)

  clear H
  simp only [zCol] at B
  replace kX := B.x.cell
  replace fX := B.x.free
  replace kB := B.b.cell
  replace kR := B.r.cell
  replace fR := B.r.free
  replace kH := B.H.cellsC (c := s.c) rfl
  go_enter Try.func55, Try.ntmps55
  go_upto_region 14 with fail
  replace B := B.drew
  refine wp_region_held_drew (S := (fun (W : World) => W.cell? ⟨w.heap.size, 0, none⟩ = some (.pointer (some ⟨h, 0, none⟩)) ∧ W.cell? ⟨w.heap.size + 1, 2, none⟩ = some (.int .i64 c) ∧ W.cell? ⟨h, 1, none⟩ = some (.int .i64 s.c.cells) ∧ W.cell? ⟨h, 2, none⟩ = some (.int .i64 s.c.muts) ∧ W.cell? ⟨h, 3, none⟩ = some (.int .i64 s.c.regs) ∧ W.cell? ⟨h, 4, none⟩ = some (.int .i64 s.c.globs))) (by kernel_rfl) (by exact ⟨B.b.cell 0, B.x.cell 2, B.H.blk.cell 1, B.H.blk.cell 2, B.H.blk.cell 3, B.H.blk.cell 4⟩) (fun hHeld => ?_)
  refine wpAnyH_take (i := 0) (v := ?_) rfl (by kernel_rfl) (by kernel_rfl) (by kernel_rfl) (fun _ _ _ h => h) (Or.inl ⟨by rfl, ?_⟩) (by assumption) ?_
  rotate_left
  · intro w hSw; (try dsimp only at hSw); go_simp; first | done | with_reducible rfl
  try simp only [Act.put, List.getElem_toArray, List.getElem_cons_succ, List.getElem_cons_zero, List.setIfInBounds_toArray, List.set_cons_zero, List.set_cons_succ]
  refine wpAnyH_take (i := 1) (v := ?_) rfl (by kernel_rfl) (by kernel_rfl) (by kernel_rfl) (fun _ _ _ h => h) (Or.inl ⟨by rfl, ?_⟩) (by assumption) ?_
  rotate_left
  · intro w hSw; (try dsimp only at hSw); go_simp; first | done | with_reducible rfl
  try simp only [Act.put, List.getElem_toArray, List.getElem_cons_succ, List.getElem_cons_zero, List.setIfInBounds_toArray, List.set_cons_zero, List.set_cons_succ]
  refine wpAnyH_take (i := 2) (v := ?_) rfl (by kernel_rfl) (by kernel_rfl) (by kernel_rfl) (fun _ _ _ h => h) (Or.inl ⟨by rfl, ?_⟩) (by assumption) ?_
  rotate_left
  · intro w hSw; (try dsimp only at hSw); go_simp; first | done | with_reducible rfl
  try simp only [Act.put, List.getElem_toArray, List.getElem_cons_succ, List.getElem_cons_zero, List.setIfInBounds_toArray, List.set_cons_zero, List.set_cons_succ]
  refine wpAnyH_take (i := 3) (v := ?_) rfl (by kernel_rfl) (by kernel_rfl) (by kernel_rfl) (fun _ _ _ h => h) (Or.inl ⟨by rfl, ?_⟩) (by assumption) ?_
  rotate_left
  · intro w hSw; (try dsimp only at hSw); go_simp; first | done | with_reducible rfl
  try simp only [Act.put, List.getElem_toArray, List.getElem_cons_succ, List.getElem_cons_zero, List.setIfInBounds_toArray, List.set_cons_zero, List.set_cons_succ]
  refine wpAnyH_take (i := 4) (v := ?_) rfl (by kernel_rfl) (by kernel_rfl) (by kernel_rfl) (fun _ _ _ h => h) (Or.inl ⟨by rfl, ?_⟩) (by assumption) ?_
  rotate_left
  · intro w hSw; (try dsimp only at hSw); go_simp; first | done | with_reducible rfl
  try simp only [Act.put, List.getElem_toArray, List.getElem_cons_succ, List.getElem_cons_zero, List.setIfInBounds_toArray, List.set_cons_zero, List.set_cons_succ]
  refine wpAnyH_take (i := 5) (v := ?_) rfl (by kernel_rfl) (by kernel_rfl) (by kernel_rfl) (fun _ _ _ h => h) (Or.inl ⟨by rfl, ?_⟩) (by assumption) ?_
  rotate_left
  · intro w hSw; (try dsimp only at hSw); go_simp; first | done | with_reducible rfl
  try simp only [Act.put, List.getElem_toArray, List.getElem_cons_succ, List.getElem_cons_zero, List.setIfInBounds_toArray, List.set_cons_zero, List.set_cons_succ]
  refine wpAnyH_take (i := 6) (v := ?_) rfl (by kernel_rfl) (by kernel_rfl) (by kernel_rfl) (fun _ _ _ h => h) (Or.inl ⟨by rfl, ?_⟩) (by assumption) ?_
  rotate_left
  · intro w hSw; (try dsimp only at hSw); go_simp; first | done | with_reducible rfl
  try simp only [Act.put, List.getElem_toArray, List.getElem_cons_succ, List.getElem_cons_zero, List.setIfInBounds_toArray, List.set_cons_zero, List.set_cons_succ]
  refine wpAnyH_ready (rs := [7]) (by kernel_rfl) (by simp) ?_
  refine AllReadyH.cons rfl (fun K hK => ?_) AllReadyH.nil
  go_simp
  (go_at_call 136; refine (colour_any hrr _ _).mono ?_; rintro e w2 ⟨rfl, hF2⟩; (replace B := B.kept0 hF2); (replace kX := B.x.cell); (replace fX := B.x.free); (replace kB := B.b.cell); (replace kR := B.r.cell); (replace fR := B.r.free); (replace kH := B.H.cellsC (c := s.c) rfl))
  go_wp2_with fail
  refine hK.out _ _ (by exact ⟨B.b.cell 0, B.x.cell 2, B.H.blk.cell 1, B.H.blk.cell 2, B.H.blk.cell 3, B.H.blk.cell 4⟩) (fun hHeld => ?_)
  clear hK K
  try simp only [Act.put, List.getElem_toArray, List.getElem_cons_succ, List.getElem_cons_zero, List.setIfInBounds_toArray, List.set_cons_zero, List.set_cons_succ]
  refine wpAnyH_ready (rs := [8]) (by kernel_rfl) (by simp) ?_
  refine AllReadyH.cons rfl (fun K hK => ?_) AllReadyH.nil
  go_simp
  (go_at_call 126; refine (load_u hu B.H).mono ?_; rintro e w2 ⟨rfl, HH, hF2⟩; (replace B := B.hand HH hF2); clear HH; (replace kX := B.x.cell); (replace fX := B.x.free); (replace kB := B.b.cell); (replace kR := B.r.cell); (replace fR := B.r.free); (replace kH := B.H.cellsC (c := s.c) rfl))
  go_wp2_with fail
  refine hK.out _ _ (by exact ⟨B.b.cell 0, B.x.cell 2, B.H.blk.cell 1, B.H.blk.cell 2, B.H.blk.cell 3, B.H.blk.cell 4⟩) (fun hHeld => ?_)
  clear hK K
  try simp only [Act.put, List.getElem_toArray, List.getElem_cons_succ, List.getElem_cons_zero, List.setIfInBounds_toArray, List.set_cons_zero, List.set_cons_succ]
  refine wpAnyH_take (i := 9) (v := ?_) rfl (by kernel_rfl) (by kernel_rfl) (by kernel_rfl) (fun _ _ _ h => h) (Or.inl ⟨by rfl, ?_⟩) (by assumption) ?_
  rotate_left
  · intro w hSw; (try dsimp only at hSw); go_simp; first | done | with_reducible rfl
  try simp only [Act.put, List.getElem_toArray, List.getElem_cons_succ, List.getElem_cons_zero, List.setIfInBounds_toArray, List.set_cons_zero, List.set_cons_succ]
  refine wpAnyH_done (by kernel_rfl) ?_ _
  clear hHeld
  obtain ⟨W9, hW9, B9⟩ : ∃ W9, W9 = _ ∧ CB w h ab db _ _ W9 := ⟨_, rfl, B⟩
  rw [← hW9]
  clear B hW9
  have B := B9
  clear B9
  replace kX := B.x.cell
  replace fX := B.x.free
  replace kB := B.b.cell
  replace kR := B.r.cell
  replace fR := B.r.free
  replace kH := B.H.cellsC (c := s.c) rfl
  go_wp2_with (first | (go_at_call 145; refine (passnext_found B.H _ _ _ _ _ _ _ _ _ hc hlH.out hfH.out).mono ?_; rintro e w2 ⟨rfl, _, hF2⟩; (replace B := B.kept0 hF2); (replace kX := B.x.cell); (replace fX := B.x.free); (replace kB := B.b.cell); (replace kR := B.r.cell); (replace fR := B.r.free); (replace kH := B.H.cellsC (c := s.c) rfl)))
  refine bodyPost_ret (v := .tuple #[.agg #[.int .i64 (3), .int .i64 (j), .int .i64 (c + 1), .int .i64 (m), .int .u64 (a), .int .u64 (p), .bool (found), .int .i64 (tail), .int .i64 (cyc)], .bool true]) (by simp [results, Try.results55, go_sem, kX, kR]) rfl ⟨rfl, ?_⟩
  exact B.done _ _ _ _ _ _ _ _ _


set_option maxRecDepth 100000 in
set_option maxHeartbeats 4000000 in
theorem pa4o {w : World} {h ab db : Nat} {s : HS} (H : HAt w h ab db s) (j c m a p tail cyc : Int) (found : Bool) (u : Int) (hu : wAt s.ws (s.c.cellP 2 c) = u) (h1 : (u != 1) = true) (hc : -1000000 ≤ c ∧ c ≤ 1000000) (hl : s.c.cells ≤ c + 1) (hf : found = false) :
    Calls Try.prog 55 #[.pointer (some ⟨h, 0, none⟩), .agg #[.int .i64 (4), .int .i64 (j), .int .i64 (c), .int .i64 (m), .int .u64 (a), .int .u64 (p), .bool (found), .int .i64 (tail), .int .i64 (cyc)]] w fun e w' => e = .returned (.tuple #[.agg #[.int .i64 (10), .int .i64 (j), .int .i64 (c + 1), .int .i64 (0), .int .u64 (a), .int .u64 (p), .bool (found), .int .i64 (tail), .int .i64 (cyc)], .bool true]) ∧ (HAt w' h ab db (s.doIt (aLoad (s.c.cellP 2 c))) ∧ Fr [h, db] w w') := by
  have hmf : ∀ (fn : Fn) (first cap : Array Value) (w : World), (Instr.makeFunc fn first cap).run Try.prog w = .ok (.func fn first cap) w := fun _ _ _ _ => rfl
  have B := CB.start H [.int .i64 (4), .int .i64 (j), .int .i64 (c), .int .i64 (m), .int .u64 (a), .int .u64 (p), .bool (found), .int .i64 (tail), .int .i64 (cyc)]
  have n0 := B.l1
  have n1 := B.l3
  have n2 := B.l2
  have hrr := H.right
  (try replace hl := hid hl)
  (try have hlH := hl)
  (try replace hf := hid hf)
  (try have hfH := hf)

  clear H
  simp only [zCol] at B
  replace kX := B.x.cell
  replace fX := B.x.free
  replace kB := B.b.cell
  replace kR := B.r.cell
  replace fR := B.r.free
  replace kH := B.H.cellsC (c := s.c) rfl
  go_enter Try.func55, Try.ntmps55
  go_upto_region 14 with fail
  replace B := B.drew
  refine wp_region_held_drew (S := (fun (W : World) => W.cell? ⟨w.heap.size, 0, none⟩ = some (.pointer (some ⟨h, 0, none⟩)) ∧ W.cell? ⟨w.heap.size + 1, 2, none⟩ = some (.int .i64 c) ∧ W.cell? ⟨h, 1, none⟩ = some (.int .i64 s.c.cells) ∧ W.cell? ⟨h, 2, none⟩ = some (.int .i64 s.c.muts) ∧ W.cell? ⟨h, 3, none⟩ = some (.int .i64 s.c.regs) ∧ W.cell? ⟨h, 4, none⟩ = some (.int .i64 s.c.globs))) (by kernel_rfl) (by exact ⟨B.b.cell 0, B.x.cell 2, B.H.blk.cell 1, B.H.blk.cell 2, B.H.blk.cell 3, B.H.blk.cell 4⟩) (fun hHeld => ?_)
  refine wpAnyH_take (i := 0) (v := ?_) rfl (by kernel_rfl) (by kernel_rfl) (by kernel_rfl) (fun _ _ _ h => h) (Or.inl ⟨by rfl, ?_⟩) (by assumption) ?_
  rotate_left
  · intro w hSw; (try dsimp only at hSw); go_simp; first | done | with_reducible rfl
  try simp only [Act.put, List.getElem_toArray, List.getElem_cons_succ, List.getElem_cons_zero, List.setIfInBounds_toArray, List.set_cons_zero, List.set_cons_succ]
  refine wpAnyH_take (i := 1) (v := ?_) rfl (by kernel_rfl) (by kernel_rfl) (by kernel_rfl) (fun _ _ _ h => h) (Or.inl ⟨by rfl, ?_⟩) (by assumption) ?_
  rotate_left
  · intro w hSw; (try dsimp only at hSw); go_simp; first | done | with_reducible rfl
  try simp only [Act.put, List.getElem_toArray, List.getElem_cons_succ, List.getElem_cons_zero, List.setIfInBounds_toArray, List.set_cons_zero, List.set_cons_succ]
  refine wpAnyH_take (i := 2) (v := ?_) rfl (by kernel_rfl) (by kernel_rfl) (by kernel_rfl) (fun _ _ _ h => h) (Or.inl ⟨by rfl, ?_⟩) (by assumption) ?_
  rotate_left
  · intro w hSw; (try dsimp only at hSw); go_simp; first | done | with_reducible rfl
  try simp only [Act.put, List.getElem_toArray, List.getElem_cons_succ, List.getElem_cons_zero, List.setIfInBounds_toArray, List.set_cons_zero, List.set_cons_succ]
  refine wpAnyH_take (i := 3) (v := ?_) rfl (by kernel_rfl) (by kernel_rfl) (by kernel_rfl) (fun _ _ _ h => h) (Or.inl ⟨by rfl, ?_⟩) (by assumption) ?_
  rotate_left
  · intro w hSw; (try dsimp only at hSw); go_simp; first | done | with_reducible rfl
  try simp only [Act.put, List.getElem_toArray, List.getElem_cons_succ, List.getElem_cons_zero, List.setIfInBounds_toArray, List.set_cons_zero, List.set_cons_succ]
  refine wpAnyH_take (i := 4) (v := ?_) rfl (by kernel_rfl) (by kernel_rfl) (by kernel_rfl) (fun _ _ _ h => h) (Or.inl ⟨by rfl, ?_⟩) (by assumption) ?_
  rotate_left
  · intro w hSw; (try dsimp only at hSw); go_simp; first | done | with_reducible rfl
  try simp only [Act.put, List.getElem_toArray, List.getElem_cons_succ, List.getElem_cons_zero, List.setIfInBounds_toArray, List.set_cons_zero, List.set_cons_succ]
  refine wpAnyH_take (i := 5) (v := ?_) rfl (by kernel_rfl) (by kernel_rfl) (by kernel_rfl) (fun _ _ _ h => h) (Or.inl ⟨by rfl, ?_⟩) (by assumption) ?_
  rotate_left
  · intro w hSw; (try dsimp only at hSw); go_simp; first | done | with_reducible rfl
  try simp only [Act.put, List.getElem_toArray, List.getElem_cons_succ, List.getElem_cons_zero, List.setIfInBounds_toArray, List.set_cons_zero, List.set_cons_succ]
  refine wpAnyH_take (i := 6) (v := ?_) rfl (by kernel_rfl) (by kernel_rfl) (by kernel_rfl) (fun _ _ _ h => h) (Or.inl ⟨by rfl, ?_⟩) (by assumption) ?_
  rotate_left
  · intro w hSw; (try dsimp only at hSw); go_simp; first | done | with_reducible rfl
  try simp only [Act.put, List.getElem_toArray, List.getElem_cons_succ, List.getElem_cons_zero, List.setIfInBounds_toArray, List.set_cons_zero, List.set_cons_succ]
  refine wpAnyH_ready (rs := [7]) (by kernel_rfl) (by simp) ?_
  refine AllReadyH.cons rfl (fun K hK => ?_) AllReadyH.nil
  go_simp
  (go_at_call 136; refine (colour_any hrr _ _).mono ?_; rintro e w2 ⟨rfl, hF2⟩; (replace B := B.kept0 hF2); (replace kX := B.x.cell); (replace fX := B.x.free); (replace kB := B.b.cell); (replace kR := B.r.cell); (replace fR := B.r.free); (replace kH := B.H.cellsC (c := s.c) rfl))
  go_wp2_with fail
  refine hK.out _ _ (by exact ⟨B.b.cell 0, B.x.cell 2, B.H.blk.cell 1, B.H.blk.cell 2, B.H.blk.cell 3, B.H.blk.cell 4⟩) (fun hHeld => ?_)
  clear hK K
  try simp only [Act.put, List.getElem_toArray, List.getElem_cons_succ, List.getElem_cons_zero, List.setIfInBounds_toArray, List.set_cons_zero, List.set_cons_succ]
  refine wpAnyH_ready (rs := [8]) (by kernel_rfl) (by simp) ?_
  refine AllReadyH.cons rfl (fun K hK => ?_) AllReadyH.nil
  go_simp
  (go_at_call 126; refine (load_u hu B.H).mono ?_; rintro e w2 ⟨rfl, HH, hF2⟩; (replace B := B.hand HH hF2); clear HH; (replace kX := B.x.cell); (replace fX := B.x.free); (replace kB := B.b.cell); (replace kR := B.r.cell); (replace fR := B.r.free); (replace kH := B.H.cellsC (c := s.c) rfl))
  go_wp2_with fail
  refine hK.out _ _ (by exact ⟨B.b.cell 0, B.x.cell 2, B.H.blk.cell 1, B.H.blk.cell 2, B.H.blk.cell 3, B.H.blk.cell 4⟩) (fun hHeld => ?_)
  clear hK K
  try simp only [Act.put, List.getElem_toArray, List.getElem_cons_succ, List.getElem_cons_zero, List.setIfInBounds_toArray, List.set_cons_zero, List.set_cons_succ]
  refine wpAnyH_take (i := 9) (v := ?_) rfl (by kernel_rfl) (by kernel_rfl) (by kernel_rfl) (fun _ _ _ h => h) (Or.inl ⟨by rfl, ?_⟩) (by assumption) ?_
  rotate_left
  · intro w hSw; (try dsimp only at hSw); go_simp; first | done | with_reducible rfl
  try simp only [Act.put, List.getElem_toArray, List.getElem_cons_succ, List.getElem_cons_zero, List.setIfInBounds_toArray, List.set_cons_zero, List.set_cons_succ]
  refine wpAnyH_done (by kernel_rfl) ?_ _
  clear hHeld
  obtain ⟨W9, hW9, B9⟩ : ∃ W9, W9 = _ ∧ CB w h ab db _ _ W9 := ⟨_, rfl, B⟩
  rw [← hW9]
  clear B hW9
  have B := B9
  clear B9
  replace kX := B.x.cell
  replace fX := B.x.free
  replace kB := B.b.cell
  replace kR := B.r.cell
  replace fR := B.r.free
  replace kH := B.H.cellsC (c := s.c) rfl
  go_wp2_with (first | (go_at_call 145; refine (passnext_over B.H _ _ _ _ _ _ _ _ _ hc hlH.out hfH.out).mono ?_; rintro e w2 ⟨rfl, _, hF2⟩; (replace B := B.kept0 hF2); (replace kX := B.x.cell); (replace fX := B.x.free); (replace kB := B.b.cell); (replace kR := B.r.cell); (replace fR := B.r.free); (replace kH := B.H.cellsC (c := s.c) rfl)))
  refine bodyPost_ret (v := .tuple #[.agg #[.int .i64 (10), .int .i64 (j), .int .i64 (c + 1), .int .i64 (0), .int .u64 (a), .int .u64 (p), .bool (found), .int .i64 (tail), .int .i64 (cyc)], .bool true]) (by simp [results, Try.results55, go_sem, kX, kR]) rfl ⟨rfl, ?_⟩
  exact B.done _ _ _ _ _ _ _ _ _


set_option maxRecDepth 100000 in
set_option maxHeartbeats 4000000 in
theorem pa5y {w : World} {h ab db : Nat} {s : HS} (H : HAt w h ab db s) (j c m a p tail cyc : Int) (found : Bool) (u : Int) (hu : wAt s.ws (s.c.cellP 0 c) = u) (hu0 : 0 ≤ u) (hu1 : u < 18446744073709551616) (hv : isCell u = true) :
    Calls Try.prog 55 #[.pointer (some ⟨h, 0, none⟩), .agg #[.int .i64 (5), .int .i64 (j), .int .i64 (c), .int .i64 (m), .int .u64 (a), .int .u64 (p), .bool (found), .int .i64 (tail), .int .i64 (cyc)]] w fun e w' => e = .returned (.tuple #[.agg #[.int .i64 (6), .int .i64 (j), .int .i64 (c), .int .i64 (m), .int .u64 (u), .int .u64 (p), .bool (found), .int .i64 (tail), .int .i64 (cyc)], .bool true]) ∧ (HAt w' h ab db (s.doIt (aLoad (s.c.cellP 0 c))) ∧ Fr [h, db] w w') := by
  have hmf : ∀ (fn : Fn) (first cap : Array Value) (w : World), (Instr.makeFunc fn first cap).run Try.prog w = .ok (.func fn first cap) w := fun _ _ _ _ => rfl
  have B := CB.start H [.int .i64 (5), .int .i64 (j), .int .i64 (c), .int .i64 (m), .int .u64 (a), .int .u64 (p), .bool (found), .int .i64 (tail), .int .i64 (cyc)]
  have n0 := B.l1
  have n1 := B.l3
  have n2 := B.l2
  have hrr := H.right
  have hvH := hid hv
  clear hv

  clear H
  simp only [zCol] at B
  replace kX := B.x.cell
  replace fX := B.x.free
  replace kB := B.b.cell
  replace kR := B.r.cell
  replace fR := B.r.free
  replace kH := B.H.cellsC (c := s.c) rfl
  go_enter Try.func55, Try.ntmps55
  go_upto_region 17 with fail
  replace B := B.drew
  refine wp_region_held_drew (S := (fun (W : World) => W.cell? ⟨w.heap.size, 0, none⟩ = some (.pointer (some ⟨h, 0, none⟩)) ∧ W.cell? ⟨w.heap.size + 1, 2, none⟩ = some (.int .i64 c) ∧ W.cell? ⟨h, 1, none⟩ = some (.int .i64 s.c.cells) ∧ W.cell? ⟨h, 2, none⟩ = some (.int .i64 s.c.muts) ∧ W.cell? ⟨h, 3, none⟩ = some (.int .i64 s.c.regs) ∧ W.cell? ⟨h, 4, none⟩ = some (.int .i64 s.c.globs))) (by kernel_rfl) (by exact ⟨B.b.cell 0, B.x.cell 2, B.H.blk.cell 1, B.H.blk.cell 2, B.H.blk.cell 3, B.H.blk.cell 4⟩) (fun hHeld => ?_)
  refine wpAnyH_take (i := 0) (v := ?_) rfl (by kernel_rfl) (by kernel_rfl) (by kernel_rfl) (fun _ _ _ h => h) (Or.inl ⟨by rfl, ?_⟩) (by assumption) ?_
  rotate_left
  · intro w hSw; (try dsimp only at hSw); go_simp; first | done | with_reducible rfl
  try simp only [Act.put, List.getElem_toArray, List.getElem_cons_succ, List.getElem_cons_zero, List.setIfInBounds_toArray, List.set_cons_zero, List.set_cons_succ]
  refine wpAnyH_take (i := 1) (v := ?_) rfl (by kernel_rfl) (by kernel_rfl) (by kernel_rfl) (fun _ _ _ h => h) (Or.inl ⟨by rfl, ?_⟩) (by assumption) ?_
  rotate_left
  · intro w hSw; (try dsimp only at hSw); go_simp; first | done | with_reducible rfl
  try simp only [Act.put, List.getElem_toArray, List.getElem_cons_succ, List.getElem_cons_zero, List.setIfInBounds_toArray, List.set_cons_zero, List.set_cons_succ]
  refine wpAnyH_take (i := 2) (v := ?_) rfl (by kernel_rfl) (by kernel_rfl) (by kernel_rfl) (fun _ _ _ h => h) (Or.inl ⟨by rfl, ?_⟩) (by assumption) ?_
  rotate_left
  · intro w hSw; (try dsimp only at hSw); go_simp; first | done | with_reducible rfl
  try simp only [Act.put, List.getElem_toArray, List.getElem_cons_succ, List.getElem_cons_zero, List.setIfInBounds_toArray, List.set_cons_zero, List.set_cons_succ]
  refine wpAnyH_take (i := 3) (v := ?_) rfl (by kernel_rfl) (by kernel_rfl) (by kernel_rfl) (fun _ _ _ h => h) (Or.inl ⟨by rfl, ?_⟩) (by assumption) ?_
  rotate_left
  · intro w hSw; (try dsimp only at hSw); go_simp; first | done | with_reducible rfl
  try simp only [Act.put, List.getElem_toArray, List.getElem_cons_succ, List.getElem_cons_zero, List.setIfInBounds_toArray, List.set_cons_zero, List.set_cons_succ]
  refine wpAnyH_take (i := 4) (v := ?_) rfl (by kernel_rfl) (by kernel_rfl) (by kernel_rfl) (fun _ _ _ h => h) (Or.inl ⟨by rfl, ?_⟩) (by assumption) ?_
  rotate_left
  · intro w hSw; (try dsimp only at hSw); go_simp; first | done | with_reducible rfl
  try simp only [Act.put, List.getElem_toArray, List.getElem_cons_succ, List.getElem_cons_zero, List.setIfInBounds_toArray, List.set_cons_zero, List.set_cons_succ]
  refine wpAnyH_take (i := 5) (v := ?_) rfl (by kernel_rfl) (by kernel_rfl) (by kernel_rfl) (fun _ _ _ h => h) (Or.inl ⟨by rfl, ?_⟩) (by assumption) ?_
  rotate_left
  · intro w hSw; (try dsimp only at hSw); go_simp; first | done | with_reducible rfl
  try simp only [Act.put, List.getElem_toArray, List.getElem_cons_succ, List.getElem_cons_zero, List.setIfInBounds_toArray, List.set_cons_zero, List.set_cons_succ]
  refine wpAnyH_take (i := 6) (v := ?_) rfl (by kernel_rfl) (by kernel_rfl) (by kernel_rfl) (fun _ _ _ h => h) (Or.inl ⟨by rfl, ?_⟩) (by assumption) ?_
  rotate_left
  · intro w hSw; (try dsimp only at hSw); go_simp; first | done | with_reducible rfl
  try simp only [Act.put, List.getElem_toArray, List.getElem_cons_succ, List.getElem_cons_zero, List.setIfInBounds_toArray, List.set_cons_zero, List.set_cons_succ]
  refine wpAnyH_ready (rs := [7]) (by kernel_rfl) (by simp) ?_
  refine AllReadyH.cons rfl (fun K hK => ?_) AllReadyH.nil
  go_simp
  (go_at_call 137; refine (car_any hrr _ _).mono ?_; rintro e w2 ⟨rfl, hF2⟩; (replace B := B.kept0 hF2); (replace kX := B.x.cell); (replace fX := B.x.free); (replace kB := B.b.cell); (replace kR := B.r.cell); (replace fR := B.r.free); (replace kH := B.H.cellsC (c := s.c) rfl))
  go_wp2_with fail
  refine hK.out _ _ (by exact ⟨B.b.cell 0, B.x.cell 2, B.H.blk.cell 1, B.H.blk.cell 2, B.H.blk.cell 3, B.H.blk.cell 4⟩) (fun hHeld => ?_)
  clear hK K
  try simp only [Act.put, List.getElem_toArray, List.getElem_cons_succ, List.getElem_cons_zero, List.setIfInBounds_toArray, List.set_cons_zero, List.set_cons_succ]
  refine wpAnyH_ready (rs := [8]) (by kernel_rfl) (by simp) ?_
  refine AllReadyH.cons rfl (fun K hK => ?_) AllReadyH.nil
  go_simp
  (go_at_call 143; refine (passchild_y (line := 5) B.b B.x B.H (by omega) (by omega) (by omega) (by omega) (by omega) (by omega) hu hu0 hu1 (by omega) hvH.out).mono ?_; rintro e w2 ⟨rfl, HH, hX2, hF2⟩; (replace B := B.both HH hX2 hF2); clear HH hX2; (replace kX := B.x.cell); (replace fX := B.x.free); (replace kB := B.b.cell); (replace kR := B.r.cell); (replace fR := B.r.free); (replace kH := B.H.cellsC (c := s.c) rfl))
  go_wp2_with fail
  refine hK.out _ _ (by exact ⟨B.b.cell 0, B.x.cell 2, B.H.blk.cell 1, B.H.blk.cell 2, B.H.blk.cell 3, B.H.blk.cell 4⟩) (fun hHeld => ?_)
  clear hK K
  try simp only [Act.put, List.getElem_toArray, List.getElem_cons_succ, List.getElem_cons_zero, List.setIfInBounds_toArray, List.set_cons_zero, List.set_cons_succ]
  refine wpAnyH_done (by kernel_rfl) ?_ _
  clear hHeld
  obtain ⟨W9, hW9, B9⟩ : ∃ W9, W9 = _ ∧ CB w h ab db _ _ W9 := ⟨_, rfl, B⟩
  rw [← hW9]
  clear B hW9
  have B := B9
  clear B9
  replace kX := B.x.cell
  replace fX := B.x.free
  replace kB := B.b.cell
  replace kR := B.r.cell
  replace fR := B.r.free
  replace kH := B.H.cellsC (c := s.c) rfl
  go_wp2_with fail
  refine bodyPost_ret (v := .tuple #[.agg #[.int .i64 (6), .int .i64 (j), .int .i64 (c), .int .i64 (m), .int .u64 (u), .int .u64 (p), .bool (found), .int .i64 (tail), .int .i64 (cyc)], .bool true]) (by simp [results, Try.results55, go_sem, kX, kR]) rfl ⟨rfl, ?_⟩
  exact B.done _ _ _ _ _ _ _ _ _


set_option maxRecDepth 100000 in
set_option maxHeartbeats 4000000 in
theorem pa5n {w : World} {h ab db : Nat} {s : HS} (H : HAt w h ab db s) (j c m a p tail cyc : Int) (found : Bool) (u : Int) (hu : wAt s.ws (s.c.cellP 0 c) = u) (hu0 : 0 ≤ u) (hu1 : u < 18446744073709551616) (hv : isCell u = false) :
    Calls Try.prog 55 #[.pointer (some ⟨h, 0, none⟩), .agg #[.int .i64 (5), .int .i64 (j), .int .i64 (c), .int .i64 (m), .int .u64 (a), .int .u64 (p), .bool (found), .int .i64 (tail), .int .i64 (cyc)]] w fun e w' => e = .returned (.tuple #[.agg #[.int .i64 (7), .int .i64 (j), .int .i64 (c), .int .i64 (m), .int .u64 (u), .int .u64 (p), .bool (found), .int .i64 (tail), .int .i64 (cyc)], .bool true]) ∧ (HAt w' h ab db (s.doIt (aLoad (s.c.cellP 0 c))) ∧ Fr [h, db] w w') := by
  have hmf : ∀ (fn : Fn) (first cap : Array Value) (w : World), (Instr.makeFunc fn first cap).run Try.prog w = .ok (.func fn first cap) w := fun _ _ _ _ => rfl
  have B := CB.start H [.int .i64 (5), .int .i64 (j), .int .i64 (c), .int .i64 (m), .int .u64 (a), .int .u64 (p), .bool (found), .int .i64 (tail), .int .i64 (cyc)]
  have n0 := B.l1
  have n1 := B.l3
  have n2 := B.l2
  have hrr := H.right
  have hvH := hid hv
  clear hv

  clear H
  simp only [zCol] at B
  replace kX := B.x.cell
  replace fX := B.x.free
  replace kB := B.b.cell
  replace kR := B.r.cell
  replace fR := B.r.free
  replace kH := B.H.cellsC (c := s.c) rfl
  go_enter Try.func55, Try.ntmps55
  go_upto_region 17 with fail
  replace B := B.drew
  refine wp_region_held_drew (S := (fun (W : World) => W.cell? ⟨w.heap.size, 0, none⟩ = some (.pointer (some ⟨h, 0, none⟩)) ∧ W.cell? ⟨w.heap.size + 1, 2, none⟩ = some (.int .i64 c) ∧ W.cell? ⟨h, 1, none⟩ = some (.int .i64 s.c.cells) ∧ W.cell? ⟨h, 2, none⟩ = some (.int .i64 s.c.muts) ∧ W.cell? ⟨h, 3, none⟩ = some (.int .i64 s.c.regs) ∧ W.cell? ⟨h, 4, none⟩ = some (.int .i64 s.c.globs))) (by kernel_rfl) (by exact ⟨B.b.cell 0, B.x.cell 2, B.H.blk.cell 1, B.H.blk.cell 2, B.H.blk.cell 3, B.H.blk.cell 4⟩) (fun hHeld => ?_)
  refine wpAnyH_take (i := 0) (v := ?_) rfl (by kernel_rfl) (by kernel_rfl) (by kernel_rfl) (fun _ _ _ h => h) (Or.inl ⟨by rfl, ?_⟩) (by assumption) ?_
  rotate_left
  · intro w hSw; (try dsimp only at hSw); go_simp; first | done | with_reducible rfl
  try simp only [Act.put, List.getElem_toArray, List.getElem_cons_succ, List.getElem_cons_zero, List.setIfInBounds_toArray, List.set_cons_zero, List.set_cons_succ]
  refine wpAnyH_take (i := 1) (v := ?_) rfl (by kernel_rfl) (by kernel_rfl) (by kernel_rfl) (fun _ _ _ h => h) (Or.inl ⟨by rfl, ?_⟩) (by assumption) ?_
  rotate_left
  · intro w hSw; (try dsimp only at hSw); go_simp; first | done | with_reducible rfl
  try simp only [Act.put, List.getElem_toArray, List.getElem_cons_succ, List.getElem_cons_zero, List.setIfInBounds_toArray, List.set_cons_zero, List.set_cons_succ]
  refine wpAnyH_take (i := 2) (v := ?_) rfl (by kernel_rfl) (by kernel_rfl) (by kernel_rfl) (fun _ _ _ h => h) (Or.inl ⟨by rfl, ?_⟩) (by assumption) ?_
  rotate_left
  · intro w hSw; (try dsimp only at hSw); go_simp; first | done | with_reducible rfl
  try simp only [Act.put, List.getElem_toArray, List.getElem_cons_succ, List.getElem_cons_zero, List.setIfInBounds_toArray, List.set_cons_zero, List.set_cons_succ]
  refine wpAnyH_take (i := 3) (v := ?_) rfl (by kernel_rfl) (by kernel_rfl) (by kernel_rfl) (fun _ _ _ h => h) (Or.inl ⟨by rfl, ?_⟩) (by assumption) ?_
  rotate_left
  · intro w hSw; (try dsimp only at hSw); go_simp; first | done | with_reducible rfl
  try simp only [Act.put, List.getElem_toArray, List.getElem_cons_succ, List.getElem_cons_zero, List.setIfInBounds_toArray, List.set_cons_zero, List.set_cons_succ]
  refine wpAnyH_take (i := 4) (v := ?_) rfl (by kernel_rfl) (by kernel_rfl) (by kernel_rfl) (fun _ _ _ h => h) (Or.inl ⟨by rfl, ?_⟩) (by assumption) ?_
  rotate_left
  · intro w hSw; (try dsimp only at hSw); go_simp; first | done | with_reducible rfl
  try simp only [Act.put, List.getElem_toArray, List.getElem_cons_succ, List.getElem_cons_zero, List.setIfInBounds_toArray, List.set_cons_zero, List.set_cons_succ]
  refine wpAnyH_take (i := 5) (v := ?_) rfl (by kernel_rfl) (by kernel_rfl) (by kernel_rfl) (fun _ _ _ h => h) (Or.inl ⟨by rfl, ?_⟩) (by assumption) ?_
  rotate_left
  · intro w hSw; (try dsimp only at hSw); go_simp; first | done | with_reducible rfl
  try simp only [Act.put, List.getElem_toArray, List.getElem_cons_succ, List.getElem_cons_zero, List.setIfInBounds_toArray, List.set_cons_zero, List.set_cons_succ]
  refine wpAnyH_take (i := 6) (v := ?_) rfl (by kernel_rfl) (by kernel_rfl) (by kernel_rfl) (fun _ _ _ h => h) (Or.inl ⟨by rfl, ?_⟩) (by assumption) ?_
  rotate_left
  · intro w hSw; (try dsimp only at hSw); go_simp; first | done | with_reducible rfl
  try simp only [Act.put, List.getElem_toArray, List.getElem_cons_succ, List.getElem_cons_zero, List.setIfInBounds_toArray, List.set_cons_zero, List.set_cons_succ]
  refine wpAnyH_ready (rs := [7]) (by kernel_rfl) (by simp) ?_
  refine AllReadyH.cons rfl (fun K hK => ?_) AllReadyH.nil
  go_simp
  (go_at_call 137; refine (car_any hrr _ _).mono ?_; rintro e w2 ⟨rfl, hF2⟩; (replace B := B.kept0 hF2); (replace kX := B.x.cell); (replace fX := B.x.free); (replace kB := B.b.cell); (replace kR := B.r.cell); (replace fR := B.r.free); (replace kH := B.H.cellsC (c := s.c) rfl))
  go_wp2_with fail
  refine hK.out _ _ (by exact ⟨B.b.cell 0, B.x.cell 2, B.H.blk.cell 1, B.H.blk.cell 2, B.H.blk.cell 3, B.H.blk.cell 4⟩) (fun hHeld => ?_)
  clear hK K
  try simp only [Act.put, List.getElem_toArray, List.getElem_cons_succ, List.getElem_cons_zero, List.setIfInBounds_toArray, List.set_cons_zero, List.set_cons_succ]
  refine wpAnyH_ready (rs := [8]) (by kernel_rfl) (by simp) ?_
  refine AllReadyH.cons rfl (fun K hK => ?_) AllReadyH.nil
  go_simp
  (go_at_call 143; refine (passchild_n (line := 5) B.b B.x B.H (by omega) (by omega) (by omega) (by omega) (by omega) (by omega) hu hu0 hu1 (by omega) hvH.out).mono ?_; rintro e w2 ⟨rfl, HH, hX2, hF2⟩; (replace B := B.both HH hX2 hF2); clear HH hX2; (replace kX := B.x.cell); (replace fX := B.x.free); (replace kB := B.b.cell); (replace kR := B.r.cell); (replace fR := B.r.free); (replace kH := B.H.cellsC (c := s.c) rfl))
  go_wp2_with fail
  refine hK.out _ _ (by exact ⟨B.b.cell 0, B.x.cell 2, B.H.blk.cell 1, B.H.blk.cell 2, B.H.blk.cell 3, B.H.blk.cell 4⟩) (fun hHeld => ?_)
  clear hK K
  try simp only [Act.put, List.getElem_toArray, List.getElem_cons_succ, List.getElem_cons_zero, List.setIfInBounds_toArray, List.set_cons_zero, List.set_cons_succ]
  refine wpAnyH_done (by kernel_rfl) ?_ _
  clear hHeld
  obtain ⟨W9, hW9, B9⟩ : ∃ W9, W9 = _ ∧ CB w h ab db _ _ W9 := ⟨_, rfl, B⟩
  rw [← hW9]
  clear B hW9
  have B := B9
  clear B9
  replace kX := B.x.cell
  replace fX := B.x.free
  replace kB := B.b.cell
  replace kR := B.r.cell
  replace fR := B.r.free
  replace kH := B.H.cellsC (c := s.c) rfl
  go_wp2_with fail
  refine bodyPost_ret (v := .tuple #[.agg #[.int .i64 (7), .int .i64 (j), .int .i64 (c), .int .i64 (m), .int .u64 (u), .int .u64 (p), .bool (found), .int .i64 (tail), .int .i64 (cyc)], .bool true]) (by simp [results, Try.results55, go_sem, kX, kR]) rfl ⟨rfl, ?_⟩
  exact B.done _ _ _ _ _ _ _ _ _


set_option maxRecDepth 100000 in
set_option maxHeartbeats 4000000 in
theorem pa7y {w : World} {h ab db : Nat} {s : HS} (H : HAt w h ab db s) (j c m a p tail cyc : Int) (found : Bool) (u : Int) (hu : wAt s.ws (s.c.cellP 1 c) = u) (hu0 : 0 ≤ u) (hu1 : u < 18446744073709551616) (hv : isCell u = true) :
    Calls Try.prog 55 #[.pointer (some ⟨h, 0, none⟩), .agg #[.int .i64 (7), .int .i64 (j), .int .i64 (c), .int .i64 (m), .int .u64 (a), .int .u64 (p), .bool (found), .int .i64 (tail), .int .i64 (cyc)]] w fun e w' => e = .returned (.tuple #[.agg #[.int .i64 (8), .int .i64 (j), .int .i64 (c), .int .i64 (m), .int .u64 (u), .int .u64 (p), .bool (found), .int .i64 (tail), .int .i64 (cyc)], .bool true]) ∧ (HAt w' h ab db (s.doIt (aLoad (s.c.cellP 1 c))) ∧ Fr [h, db] w w') := by
  have hmf : ∀ (fn : Fn) (first cap : Array Value) (w : World), (Instr.makeFunc fn first cap).run Try.prog w = .ok (.func fn first cap) w := fun _ _ _ _ => rfl
  have B := CB.start H [.int .i64 (7), .int .i64 (j), .int .i64 (c), .int .i64 (m), .int .u64 (a), .int .u64 (p), .bool (found), .int .i64 (tail), .int .i64 (cyc)]
  have n0 := B.l1
  have n1 := B.l3
  have n2 := B.l2
  have hrr := H.right
  have hvH := hid hv
  clear hv

  clear H
  simp only [zCol] at B
  replace kX := B.x.cell
  replace fX := B.x.free
  replace kB := B.b.cell
  replace kR := B.r.cell
  replace fR := B.r.free
  replace kH := B.H.cellsC (c := s.c) rfl
  go_enter Try.func55, Try.ntmps55
  go_upto_region 18 with fail
  replace B := B.drew
  refine wp_region_held_drew (S := (fun (W : World) => W.cell? ⟨w.heap.size, 0, none⟩ = some (.pointer (some ⟨h, 0, none⟩)) ∧ W.cell? ⟨w.heap.size + 1, 2, none⟩ = some (.int .i64 c) ∧ W.cell? ⟨h, 1, none⟩ = some (.int .i64 s.c.cells) ∧ W.cell? ⟨h, 2, none⟩ = some (.int .i64 s.c.muts) ∧ W.cell? ⟨h, 3, none⟩ = some (.int .i64 s.c.regs) ∧ W.cell? ⟨h, 4, none⟩ = some (.int .i64 s.c.globs))) (by kernel_rfl) (by exact ⟨B.b.cell 0, B.x.cell 2, B.H.blk.cell 1, B.H.blk.cell 2, B.H.blk.cell 3, B.H.blk.cell 4⟩) (fun hHeld => ?_)
  refine wpAnyH_take (i := 0) (v := ?_) rfl (by kernel_rfl) (by kernel_rfl) (by kernel_rfl) (fun _ _ _ h => h) (Or.inl ⟨by rfl, ?_⟩) (by assumption) ?_
  rotate_left
  · intro w hSw; (try dsimp only at hSw); go_simp; first | done | with_reducible rfl
  try simp only [Act.put, List.getElem_toArray, List.getElem_cons_succ, List.getElem_cons_zero, List.setIfInBounds_toArray, List.set_cons_zero, List.set_cons_succ]
  refine wpAnyH_take (i := 1) (v := ?_) rfl (by kernel_rfl) (by kernel_rfl) (by kernel_rfl) (fun _ _ _ h => h) (Or.inl ⟨by rfl, ?_⟩) (by assumption) ?_
  rotate_left
  · intro w hSw; (try dsimp only at hSw); go_simp; first | done | with_reducible rfl
  try simp only [Act.put, List.getElem_toArray, List.getElem_cons_succ, List.getElem_cons_zero, List.setIfInBounds_toArray, List.set_cons_zero, List.set_cons_succ]
  refine wpAnyH_take (i := 2) (v := ?_) rfl (by kernel_rfl) (by kernel_rfl) (by kernel_rfl) (fun _ _ _ h => h) (Or.inl ⟨by rfl, ?_⟩) (by assumption) ?_
  rotate_left
  · intro w hSw; (try dsimp only at hSw); go_simp; first | done | with_reducible rfl
  try simp only [Act.put, List.getElem_toArray, List.getElem_cons_succ, List.getElem_cons_zero, List.setIfInBounds_toArray, List.set_cons_zero, List.set_cons_succ]
  refine wpAnyH_take (i := 3) (v := ?_) rfl (by kernel_rfl) (by kernel_rfl) (by kernel_rfl) (fun _ _ _ h => h) (Or.inl ⟨by rfl, ?_⟩) (by assumption) ?_
  rotate_left
  · intro w hSw; (try dsimp only at hSw); go_simp; first | done | with_reducible rfl
  try simp only [Act.put, List.getElem_toArray, List.getElem_cons_succ, List.getElem_cons_zero, List.setIfInBounds_toArray, List.set_cons_zero, List.set_cons_succ]
  refine wpAnyH_take (i := 4) (v := ?_) rfl (by kernel_rfl) (by kernel_rfl) (by kernel_rfl) (fun _ _ _ h => h) (Or.inl ⟨by rfl, ?_⟩) (by assumption) ?_
  rotate_left
  · intro w hSw; (try dsimp only at hSw); go_simp; first | done | with_reducible rfl
  try simp only [Act.put, List.getElem_toArray, List.getElem_cons_succ, List.getElem_cons_zero, List.setIfInBounds_toArray, List.set_cons_zero, List.set_cons_succ]
  refine wpAnyH_take (i := 5) (v := ?_) rfl (by kernel_rfl) (by kernel_rfl) (by kernel_rfl) (fun _ _ _ h => h) (Or.inl ⟨by rfl, ?_⟩) (by assumption) ?_
  rotate_left
  · intro w hSw; (try dsimp only at hSw); go_simp; first | done | with_reducible rfl
  try simp only [Act.put, List.getElem_toArray, List.getElem_cons_succ, List.getElem_cons_zero, List.setIfInBounds_toArray, List.set_cons_zero, List.set_cons_succ]
  refine wpAnyH_take (i := 6) (v := ?_) rfl (by kernel_rfl) (by kernel_rfl) (by kernel_rfl) (fun _ _ _ h => h) (Or.inl ⟨by rfl, ?_⟩) (by assumption) ?_
  rotate_left
  · intro w hSw; (try dsimp only at hSw); go_simp; first | done | with_reducible rfl
  try simp only [Act.put, List.getElem_toArray, List.getElem_cons_succ, List.getElem_cons_zero, List.setIfInBounds_toArray, List.set_cons_zero, List.set_cons_succ]
  refine wpAnyH_ready (rs := [7]) (by kernel_rfl) (by simp) ?_
  refine AllReadyH.cons rfl (fun K hK => ?_) AllReadyH.nil
  go_simp
  (go_at_call 135; refine (cdr_any hrr _ _).mono ?_; rintro e w2 ⟨rfl, hF2⟩; (replace B := B.kept0 hF2); (replace kX := B.x.cell); (replace fX := B.x.free); (replace kB := B.b.cell); (replace kR := B.r.cell); (replace fR := B.r.free); (replace kH := B.H.cellsC (c := s.c) rfl))
  go_wp2_with fail
  refine hK.out _ _ (by exact ⟨B.b.cell 0, B.x.cell 2, B.H.blk.cell 1, B.H.blk.cell 2, B.H.blk.cell 3, B.H.blk.cell 4⟩) (fun hHeld => ?_)
  clear hK K
  try simp only [Act.put, List.getElem_toArray, List.getElem_cons_succ, List.getElem_cons_zero, List.setIfInBounds_toArray, List.set_cons_zero, List.set_cons_succ]
  refine wpAnyH_ready (rs := [8]) (by kernel_rfl) (by simp) ?_
  refine AllReadyH.cons rfl (fun K hK => ?_) AllReadyH.nil
  go_simp
  (go_at_call 143; refine (passchild_y (line := 7) B.b B.x B.H (by omega) (by omega) (by omega) (by omega) (by omega) (by omega) hu hu0 hu1 (by omega) hvH.out).mono ?_; rintro e w2 ⟨rfl, HH, hX2, hF2⟩; (replace B := B.both HH hX2 hF2); clear HH hX2; (replace kX := B.x.cell); (replace fX := B.x.free); (replace kB := B.b.cell); (replace kR := B.r.cell); (replace fR := B.r.free); (replace kH := B.H.cellsC (c := s.c) rfl))
  go_wp2_with fail
  refine hK.out _ _ (by exact ⟨B.b.cell 0, B.x.cell 2, B.H.blk.cell 1, B.H.blk.cell 2, B.H.blk.cell 3, B.H.blk.cell 4⟩) (fun hHeld => ?_)
  clear hK K
  try simp only [Act.put, List.getElem_toArray, List.getElem_cons_succ, List.getElem_cons_zero, List.setIfInBounds_toArray, List.set_cons_zero, List.set_cons_succ]
  refine wpAnyH_done (by kernel_rfl) ?_ _
  clear hHeld
  obtain ⟨W9, hW9, B9⟩ : ∃ W9, W9 = _ ∧ CB w h ab db _ _ W9 := ⟨_, rfl, B⟩
  rw [← hW9]
  clear B hW9
  have B := B9
  clear B9
  replace kX := B.x.cell
  replace fX := B.x.free
  replace kB := B.b.cell
  replace kR := B.r.cell
  replace fR := B.r.free
  replace kH := B.H.cellsC (c := s.c) rfl
  go_wp2_with fail
  refine bodyPost_ret (v := .tuple #[.agg #[.int .i64 (8), .int .i64 (j), .int .i64 (c), .int .i64 (m), .int .u64 (u), .int .u64 (p), .bool (found), .int .i64 (tail), .int .i64 (cyc)], .bool true]) (by simp [results, Try.results55, go_sem, kX, kR]) rfl ⟨rfl, ?_⟩
  exact B.done _ _ _ _ _ _ _ _ _


set_option maxRecDepth 100000 in
set_option maxHeartbeats 4000000 in
theorem pa7n {w : World} {h ab db : Nat} {s : HS} (H : HAt w h ab db s) (j c m a p tail cyc : Int) (found : Bool) (u : Int) (hu : wAt s.ws (s.c.cellP 1 c) = u) (hu0 : 0 ≤ u) (hu1 : u < 18446744073709551616) (hv : isCell u = false) :
    Calls Try.prog 55 #[.pointer (some ⟨h, 0, none⟩), .agg #[.int .i64 (7), .int .i64 (j), .int .i64 (c), .int .i64 (m), .int .u64 (a), .int .u64 (p), .bool (found), .int .i64 (tail), .int .i64 (cyc)]] w fun e w' => e = .returned (.tuple #[.agg #[.int .i64 (9), .int .i64 (j), .int .i64 (c), .int .i64 (m), .int .u64 (u), .int .u64 (p), .bool (found), .int .i64 (tail), .int .i64 (cyc)], .bool true]) ∧ (HAt w' h ab db (s.doIt (aLoad (s.c.cellP 1 c))) ∧ Fr [h, db] w w') := by
  have hmf : ∀ (fn : Fn) (first cap : Array Value) (w : World), (Instr.makeFunc fn first cap).run Try.prog w = .ok (.func fn first cap) w := fun _ _ _ _ => rfl
  have B := CB.start H [.int .i64 (7), .int .i64 (j), .int .i64 (c), .int .i64 (m), .int .u64 (a), .int .u64 (p), .bool (found), .int .i64 (tail), .int .i64 (cyc)]
  have n0 := B.l1
  have n1 := B.l3
  have n2 := B.l2
  have hrr := H.right
  have hvH := hid hv
  clear hv

  clear H
  simp only [zCol] at B
  replace kX := B.x.cell
  replace fX := B.x.free
  replace kB := B.b.cell
  replace kR := B.r.cell
  replace fR := B.r.free
  replace kH := B.H.cellsC (c := s.c) rfl
  go_enter Try.func55, Try.ntmps55
  go_upto_region 18 with fail
  replace B := B.drew
  refine wp_region_held_drew (S := (fun (W : World) => W.cell? ⟨w.heap.size, 0, none⟩ = some (.pointer (some ⟨h, 0, none⟩)) ∧ W.cell? ⟨w.heap.size + 1, 2, none⟩ = some (.int .i64 c) ∧ W.cell? ⟨h, 1, none⟩ = some (.int .i64 s.c.cells) ∧ W.cell? ⟨h, 2, none⟩ = some (.int .i64 s.c.muts) ∧ W.cell? ⟨h, 3, none⟩ = some (.int .i64 s.c.regs) ∧ W.cell? ⟨h, 4, none⟩ = some (.int .i64 s.c.globs))) (by kernel_rfl) (by exact ⟨B.b.cell 0, B.x.cell 2, B.H.blk.cell 1, B.H.blk.cell 2, B.H.blk.cell 3, B.H.blk.cell 4⟩) (fun hHeld => ?_)
  refine wpAnyH_take (i := 0) (v := ?_) rfl (by kernel_rfl) (by kernel_rfl) (by kernel_rfl) (fun _ _ _ h => h) (Or.inl ⟨by rfl, ?_⟩) (by assumption) ?_
  rotate_left
  · intro w hSw; (try dsimp only at hSw); go_simp; first | done | with_reducible rfl
  try simp only [Act.put, List.getElem_toArray, List.getElem_cons_succ, List.getElem_cons_zero, List.setIfInBounds_toArray, List.set_cons_zero, List.set_cons_succ]
  refine wpAnyH_take (i := 1) (v := ?_) rfl (by kernel_rfl) (by kernel_rfl) (by kernel_rfl) (fun _ _ _ h => h) (Or.inl ⟨by rfl, ?_⟩) (by assumption) ?_
  rotate_left
  · intro w hSw; (try dsimp only at hSw); go_simp; first | done | with_reducible rfl
  try simp only [Act.put, List.getElem_toArray, List.getElem_cons_succ, List.getElem_cons_zero, List.setIfInBounds_toArray, List.set_cons_zero, List.set_cons_succ]
  refine wpAnyH_take (i := 2) (v := ?_) rfl (by kernel_rfl) (by kernel_rfl) (by kernel_rfl) (fun _ _ _ h => h) (Or.inl ⟨by rfl, ?_⟩) (by assumption) ?_
  rotate_left
  · intro w hSw; (try dsimp only at hSw); go_simp; first | done | with_reducible rfl
  try simp only [Act.put, List.getElem_toArray, List.getElem_cons_succ, List.getElem_cons_zero, List.setIfInBounds_toArray, List.set_cons_zero, List.set_cons_succ]
  refine wpAnyH_take (i := 3) (v := ?_) rfl (by kernel_rfl) (by kernel_rfl) (by kernel_rfl) (fun _ _ _ h => h) (Or.inl ⟨by rfl, ?_⟩) (by assumption) ?_
  rotate_left
  · intro w hSw; (try dsimp only at hSw); go_simp; first | done | with_reducible rfl
  try simp only [Act.put, List.getElem_toArray, List.getElem_cons_succ, List.getElem_cons_zero, List.setIfInBounds_toArray, List.set_cons_zero, List.set_cons_succ]
  refine wpAnyH_take (i := 4) (v := ?_) rfl (by kernel_rfl) (by kernel_rfl) (by kernel_rfl) (fun _ _ _ h => h) (Or.inl ⟨by rfl, ?_⟩) (by assumption) ?_
  rotate_left
  · intro w hSw; (try dsimp only at hSw); go_simp; first | done | with_reducible rfl
  try simp only [Act.put, List.getElem_toArray, List.getElem_cons_succ, List.getElem_cons_zero, List.setIfInBounds_toArray, List.set_cons_zero, List.set_cons_succ]
  refine wpAnyH_take (i := 5) (v := ?_) rfl (by kernel_rfl) (by kernel_rfl) (by kernel_rfl) (fun _ _ _ h => h) (Or.inl ⟨by rfl, ?_⟩) (by assumption) ?_
  rotate_left
  · intro w hSw; (try dsimp only at hSw); go_simp; first | done | with_reducible rfl
  try simp only [Act.put, List.getElem_toArray, List.getElem_cons_succ, List.getElem_cons_zero, List.setIfInBounds_toArray, List.set_cons_zero, List.set_cons_succ]
  refine wpAnyH_take (i := 6) (v := ?_) rfl (by kernel_rfl) (by kernel_rfl) (by kernel_rfl) (fun _ _ _ h => h) (Or.inl ⟨by rfl, ?_⟩) (by assumption) ?_
  rotate_left
  · intro w hSw; (try dsimp only at hSw); go_simp; first | done | with_reducible rfl
  try simp only [Act.put, List.getElem_toArray, List.getElem_cons_succ, List.getElem_cons_zero, List.setIfInBounds_toArray, List.set_cons_zero, List.set_cons_succ]
  refine wpAnyH_ready (rs := [7]) (by kernel_rfl) (by simp) ?_
  refine AllReadyH.cons rfl (fun K hK => ?_) AllReadyH.nil
  go_simp
  (go_at_call 135; refine (cdr_any hrr _ _).mono ?_; rintro e w2 ⟨rfl, hF2⟩; (replace B := B.kept0 hF2); (replace kX := B.x.cell); (replace fX := B.x.free); (replace kB := B.b.cell); (replace kR := B.r.cell); (replace fR := B.r.free); (replace kH := B.H.cellsC (c := s.c) rfl))
  go_wp2_with fail
  refine hK.out _ _ (by exact ⟨B.b.cell 0, B.x.cell 2, B.H.blk.cell 1, B.H.blk.cell 2, B.H.blk.cell 3, B.H.blk.cell 4⟩) (fun hHeld => ?_)
  clear hK K
  try simp only [Act.put, List.getElem_toArray, List.getElem_cons_succ, List.getElem_cons_zero, List.setIfInBounds_toArray, List.set_cons_zero, List.set_cons_succ]
  refine wpAnyH_ready (rs := [8]) (by kernel_rfl) (by simp) ?_
  refine AllReadyH.cons rfl (fun K hK => ?_) AllReadyH.nil
  go_simp
  (go_at_call 143; refine (passchild_n (line := 7) B.b B.x B.H (by omega) (by omega) (by omega) (by omega) (by omega) (by omega) hu hu0 hu1 (by omega) hvH.out).mono ?_; rintro e w2 ⟨rfl, HH, hX2, hF2⟩; (replace B := B.both HH hX2 hF2); clear HH hX2; (replace kX := B.x.cell); (replace fX := B.x.free); (replace kB := B.b.cell); (replace kR := B.r.cell); (replace fR := B.r.free); (replace kH := B.H.cellsC (c := s.c) rfl))
  go_wp2_with fail
  refine hK.out _ _ (by exact ⟨B.b.cell 0, B.x.cell 2, B.H.blk.cell 1, B.H.blk.cell 2, B.H.blk.cell 3, B.H.blk.cell 4⟩) (fun hHeld => ?_)
  clear hK K
  try simp only [Act.put, List.getElem_toArray, List.getElem_cons_succ, List.getElem_cons_zero, List.setIfInBounds_toArray, List.set_cons_zero, List.set_cons_succ]
  refine wpAnyH_done (by kernel_rfl) ?_ _
  clear hHeld
  obtain ⟨W9, hW9, B9⟩ : ∃ W9, W9 = _ ∧ CB w h ab db _ _ W9 := ⟨_, rfl, B⟩
  rw [← hW9]
  clear B hW9
  have B := B9
  clear B9
  replace kX := B.x.cell
  replace fX := B.x.free
  replace kB := B.b.cell
  replace kR := B.r.cell
  replace fR := B.r.free
  replace kH := B.H.cellsC (c := s.c) rfl
  go_wp2_with fail
  refine bodyPost_ret (v := .tuple #[.agg #[.int .i64 (9), .int .i64 (j), .int .i64 (c), .int .i64 (m), .int .u64 (u), .int .u64 (p), .bool (found), .int .i64 (tail), .int .i64 (cyc)], .bool true]) (by simp [results, Try.results55, go_sem, kX, kR]) rfl ⟨rfl, ?_⟩
  exact B.done _ _ _ _ _ _ _ _ _


set_option maxRecDepth 100000 in
set_option maxHeartbeats 4000000 in
theorem pa6 {w : World} {h ab db : Nat} {s : HS} (H : HAt w h ab db s) (j c m a p tail cyc : Int) (found : Bool) (ha0 : 0 ≤ a) (ha1 : a < 18446744073709551616) :
    Calls Try.prog 55 #[.pointer (some ⟨h, 0, none⟩), .agg #[.int .i64 (6), .int .i64 (j), .int .i64 (c), .int .i64 (m), .int .u64 (a), .int .u64 (p), .bool (found), .int .i64 (tail), .int .i64 (cyc)]] w fun e w' => e = .returned (.tuple #[.agg #[.int .i64 (7), .int .i64 (j), .int .i64 (c), .int .i64 (m), .int .u64 (a), .int .u64 (p), .bool (found), .int .i64 (tail), .int .i64 (cyc)], .bool true]) ∧ (HAt w' h ab db (s.doIt (aCas (s.c.fieldP a 2) 0 1)) ∧ Fr [h, db] w w') := by
  have hmf : ∀ (fn : Fn) (first cap : Array Value) (w : World), (Instr.makeFunc fn first cap).run Try.prog w = .ok (.func fn first cap) w := fun _ _ _ _ => rfl
  have B := CB.start H [.int .i64 (6), .int .i64 (j), .int .i64 (c), .int .i64 (m), .int .u64 (a), .int .u64 (p), .bool (found), .int .i64 (tail), .int .i64 (cyc)]
  have n0 := B.l1
  have n1 := B.l3
  have n2 := B.l2
  have hrr := H.right
  clear H
  simp only [zCol] at B
  replace kX := B.x.cell
  replace fX := B.x.free
  replace kB := B.b.cell
  replace kR := B.r.cell
  replace fR := B.r.free
  replace kH := B.H.cellsC (c := s.c) rfl
  go_enter Try.func55, Try.ntmps55
  go_upto_region 19 with fail
  replace B := B.drew
  refine wp_region_held_drew (S := (fun (W : World) => W.cell? ⟨w.heap.size, 0, none⟩ = some (.pointer (some ⟨h, 0, none⟩)) ∧ W.cell? ⟨w.heap.size + 1, 4, none⟩ = some (.int .u64 a) ∧ W.cell? ⟨h, 1, none⟩ = some (.int .i64 s.c.cells) ∧ W.cell? ⟨h, 2, none⟩ = some (.int .i64 s.c.muts) ∧ W.cell? ⟨h, 3, none⟩ = some (.int .i64 s.c.regs) ∧ W.cell? ⟨h, 4, none⟩ = some (.int .i64 s.c.globs))) (by kernel_rfl) (by exact ⟨B.b.cell 0, B.x.cell 4, B.H.blk.cell 1, B.H.blk.cell 2, B.H.blk.cell 3, B.H.blk.cell 4⟩) (fun hHeld => ?_)
  refine wpAnyH_take (i := 0) (v := ?_) rfl (by kernel_rfl) (by kernel_rfl) (by kernel_rfl) (fun _ _ _ h => h) (Or.inl ⟨by rfl, ?_⟩) (by assumption) ?_
  rotate_left
  · intro w hSw; (try dsimp only at hSw); go_simp; first | done | with_reducible rfl
  try simp only [Act.put, List.getElem_toArray, List.getElem_cons_succ, List.getElem_cons_zero, List.setIfInBounds_toArray, List.set_cons_zero, List.set_cons_succ]
  refine wpAnyH_take (i := 1) (v := ?_) rfl (by kernel_rfl) (by kernel_rfl) (by kernel_rfl) (fun _ _ _ h => h) (Or.inl ⟨by rfl, ?_⟩) (by assumption) ?_
  rotate_left
  · intro w hSw; (try dsimp only at hSw); go_simp; first | done | with_reducible rfl
  try simp only [Act.put, List.getElem_toArray, List.getElem_cons_succ, List.getElem_cons_zero, List.setIfInBounds_toArray, List.set_cons_zero, List.set_cons_succ]
  refine wpAnyH_take (i := 2) (v := ?_) rfl (by kernel_rfl) (by kernel_rfl) (by kernel_rfl) (fun _ _ _ h => h) (Or.inl ⟨by rfl, ?_⟩) (by assumption) ?_
  rotate_left
  · intro w hSw; (try dsimp only at hSw); go_simp; first | done | with_reducible rfl
  try simp only [Act.put, List.getElem_toArray, List.getElem_cons_succ, List.getElem_cons_zero, List.setIfInBounds_toArray, List.set_cons_zero, List.set_cons_succ]
  refine wpAnyH_take (i := 3) (v := ?_) rfl (by kernel_rfl) (by kernel_rfl) (by kernel_rfl) (fun _ _ _ h => h) (Or.inl ⟨by rfl, ?_⟩) (by assumption) ?_
  rotate_left
  · intro w hSw; (try dsimp only at hSw); go_simp; first | done | with_reducible rfl
  try simp only [Act.put, List.getElem_toArray, List.getElem_cons_succ, List.getElem_cons_zero, List.setIfInBounds_toArray, List.set_cons_zero, List.set_cons_succ]
  refine wpAnyH_ready (rs := [4]) (by kernel_rfl) (by simp) ?_
  refine AllReadyH.cons rfl (fun K hK => ?_) AllReadyH.nil
  go_simp
  (go_at_call 147; refine (field_any B.H _ _ ha0 ha1).mono ?_; rintro e w2 ⟨rfl, hF2⟩; (replace B := B.kept0 hF2); (replace kX := B.x.cell); (replace fX := B.x.free); (replace kB := B.b.cell); (replace kR := B.r.cell); (replace fR := B.r.free); (replace kH := B.H.cellsC (c := s.c) rfl))
  go_wp2_with fail
  refine hK.out _ _ (by exact ⟨B.b.cell 0, B.x.cell 4, B.H.blk.cell 1, B.H.blk.cell 2, B.H.blk.cell 3, B.H.blk.cell 4⟩) (fun hHeld => ?_)
  clear hK K
  try simp only [Act.put, List.getElem_toArray, List.getElem_cons_succ, List.getElem_cons_zero, List.setIfInBounds_toArray, List.set_cons_zero, List.set_cons_succ]
  refine wpAnyH_ready (rs := [5]) (by kernel_rfl) (by simp) ?_
  refine AllReadyH.cons rfl (fun K hK => ?_) AllReadyH.nil
  go_simp
  (go_at_call 146; refine (hcas_any B.H _ _ _ (by omega) (by omega)).mono ?_; rintro e w2 ⟨rfl, HH, hF2⟩; (replace B := B.hand HH hF2); clear HH; (replace kX := B.x.cell); (replace fX := B.x.free); (replace kB := B.b.cell); (replace kR := B.r.cell); (replace fR := B.r.free); (replace kH := B.H.cellsC (c := s.c) rfl))
  go_wp2_with fail
  refine hK.out _ _ (by exact ⟨B.b.cell 0, B.x.cell 4, B.H.blk.cell 1, B.H.blk.cell 2, B.H.blk.cell 3, B.H.blk.cell 4⟩) (fun hHeld => ?_)
  clear hK K
  try simp only [Act.put, List.getElem_toArray, List.getElem_cons_succ, List.getElem_cons_zero, List.setIfInBounds_toArray, List.set_cons_zero, List.set_cons_succ]
  refine wpAnyH_done (by kernel_rfl) ?_ _
  clear hHeld
  obtain ⟨W9, hW9, B9⟩ : ∃ W9, W9 = _ ∧ CB w h ab db _ _ W9 := ⟨_, rfl, B⟩
  rw [← hW9]
  clear B hW9
  have B := B9
  clear B9
  replace kX := B.x.cell
  replace fX := B.x.free
  replace kB := B.b.cell
  replace kR := B.r.cell
  replace fR := B.r.free
  replace kH := B.H.cellsC (c := s.c) rfl
  go_wp2_with fail
  replace B := B.set 0 (.int .i64 7)
  refine bodyPost_ret (v := .tuple #[.agg #[.int .i64 (7), .int .i64 (j), .int .i64 (c), .int .i64 (m), .int .u64 (a), .int .u64 (p), .bool (found), .int .i64 (tail), .int .i64 (cyc)], .bool true]) (by simp [results, Try.results55, go_sem, kX, kR]) rfl ⟨rfl, ?_⟩
  exact B.done _ _ _ _ _ _ _ _ _


set_option maxRecDepth 100000 in
set_option maxHeartbeats 4000000 in
theorem pa8 {w : World} {h ab db : Nat} {s : HS} (H : HAt w h ab db s) (j c m a p tail cyc : Int) (found : Bool) (ha0 : 0 ≤ a) (ha1 : a < 18446744073709551616) :
    Calls Try.prog 55 #[.pointer (some ⟨h, 0, none⟩), .agg #[.int .i64 (8), .int .i64 (j), .int .i64 (c), .int .i64 (m), .int .u64 (a), .int .u64 (p), .bool (found), .int .i64 (tail), .int .i64 (cyc)]] w fun e w' => e = .returned (.tuple #[.agg #[.int .i64 (9), .int .i64 (j), .int .i64 (c), .int .i64 (m), .int .u64 (a), .int .u64 (p), .bool (found), .int .i64 (tail), .int .i64 (cyc)], .bool true]) ∧ (HAt w' h ab db (s.doIt (aCas (s.c.fieldP a 2) 0 1)) ∧ Fr [h, db] w w') := by
  have hmf : ∀ (fn : Fn) (first cap : Array Value) (w : World), (Instr.makeFunc fn first cap).run Try.prog w = .ok (.func fn first cap) w := fun _ _ _ _ => rfl
  have B := CB.start H [.int .i64 (8), .int .i64 (j), .int .i64 (c), .int .i64 (m), .int .u64 (a), .int .u64 (p), .bool (found), .int .i64 (tail), .int .i64 (cyc)]
  have n0 := B.l1
  have n1 := B.l3
  have n2 := B.l2
  have hrr := H.right
  clear H
  simp only [zCol] at B
  replace kX := B.x.cell
  replace fX := B.x.free
  replace kB := B.b.cell
  replace kR := B.r.cell
  replace fR := B.r.free
  replace kH := B.H.cellsC (c := s.c) rfl
  go_enter Try.func55, Try.ntmps55
  go_upto_region 19 with fail
  replace B := B.drew
  refine wp_region_held_drew (S := (fun (W : World) => W.cell? ⟨w.heap.size, 0, none⟩ = some (.pointer (some ⟨h, 0, none⟩)) ∧ W.cell? ⟨w.heap.size + 1, 4, none⟩ = some (.int .u64 a) ∧ W.cell? ⟨h, 1, none⟩ = some (.int .i64 s.c.cells) ∧ W.cell? ⟨h, 2, none⟩ = some (.int .i64 s.c.muts) ∧ W.cell? ⟨h, 3, none⟩ = some (.int .i64 s.c.regs) ∧ W.cell? ⟨h, 4, none⟩ = some (.int .i64 s.c.globs))) (by kernel_rfl) (by exact ⟨B.b.cell 0, B.x.cell 4, B.H.blk.cell 1, B.H.blk.cell 2, B.H.blk.cell 3, B.H.blk.cell 4⟩) (fun hHeld => ?_)
  refine wpAnyH_take (i := 0) (v := ?_) rfl (by kernel_rfl) (by kernel_rfl) (by kernel_rfl) (fun _ _ _ h => h) (Or.inl ⟨by rfl, ?_⟩) (by assumption) ?_
  rotate_left
  · intro w hSw; (try dsimp only at hSw); go_simp; first | done | with_reducible rfl
  try simp only [Act.put, List.getElem_toArray, List.getElem_cons_succ, List.getElem_cons_zero, List.setIfInBounds_toArray, List.set_cons_zero, List.set_cons_succ]
  refine wpAnyH_take (i := 1) (v := ?_) rfl (by kernel_rfl) (by kernel_rfl) (by kernel_rfl) (fun _ _ _ h => h) (Or.inl ⟨by rfl, ?_⟩) (by assumption) ?_
  rotate_left
  · intro w hSw; (try dsimp only at hSw); go_simp; first | done | with_reducible rfl
  try simp only [Act.put, List.getElem_toArray, List.getElem_cons_succ, List.getElem_cons_zero, List.setIfInBounds_toArray, List.set_cons_zero, List.set_cons_succ]
  refine wpAnyH_take (i := 2) (v := ?_) rfl (by kernel_rfl) (by kernel_rfl) (by kernel_rfl) (fun _ _ _ h => h) (Or.inl ⟨by rfl, ?_⟩) (by assumption) ?_
  rotate_left
  · intro w hSw; (try dsimp only at hSw); go_simp; first | done | with_reducible rfl
  try simp only [Act.put, List.getElem_toArray, List.getElem_cons_succ, List.getElem_cons_zero, List.setIfInBounds_toArray, List.set_cons_zero, List.set_cons_succ]
  refine wpAnyH_take (i := 3) (v := ?_) rfl (by kernel_rfl) (by kernel_rfl) (by kernel_rfl) (fun _ _ _ h => h) (Or.inl ⟨by rfl, ?_⟩) (by assumption) ?_
  rotate_left
  · intro w hSw; (try dsimp only at hSw); go_simp; first | done | with_reducible rfl
  try simp only [Act.put, List.getElem_toArray, List.getElem_cons_succ, List.getElem_cons_zero, List.setIfInBounds_toArray, List.set_cons_zero, List.set_cons_succ]
  refine wpAnyH_ready (rs := [4]) (by kernel_rfl) (by simp) ?_
  refine AllReadyH.cons rfl (fun K hK => ?_) AllReadyH.nil
  go_simp
  (go_at_call 147; refine (field_any B.H _ _ ha0 ha1).mono ?_; rintro e w2 ⟨rfl, hF2⟩; (replace B := B.kept0 hF2); (replace kX := B.x.cell); (replace fX := B.x.free); (replace kB := B.b.cell); (replace kR := B.r.cell); (replace fR := B.r.free); (replace kH := B.H.cellsC (c := s.c) rfl))
  go_wp2_with fail
  refine hK.out _ _ (by exact ⟨B.b.cell 0, B.x.cell 4, B.H.blk.cell 1, B.H.blk.cell 2, B.H.blk.cell 3, B.H.blk.cell 4⟩) (fun hHeld => ?_)
  clear hK K
  try simp only [Act.put, List.getElem_toArray, List.getElem_cons_succ, List.getElem_cons_zero, List.setIfInBounds_toArray, List.set_cons_zero, List.set_cons_succ]
  refine wpAnyH_ready (rs := [5]) (by kernel_rfl) (by simp) ?_
  refine AllReadyH.cons rfl (fun K hK => ?_) AllReadyH.nil
  go_simp
  (go_at_call 146; refine (hcas_any B.H _ _ _ (by omega) (by omega)).mono ?_; rintro e w2 ⟨rfl, HH, hF2⟩; (replace B := B.hand HH hF2); clear HH; (replace kX := B.x.cell); (replace fX := B.x.free); (replace kB := B.b.cell); (replace kR := B.r.cell); (replace fR := B.r.free); (replace kH := B.H.cellsC (c := s.c) rfl))
  go_wp2_with fail
  refine hK.out _ _ (by exact ⟨B.b.cell 0, B.x.cell 4, B.H.blk.cell 1, B.H.blk.cell 2, B.H.blk.cell 3, B.H.blk.cell 4⟩) (fun hHeld => ?_)
  clear hK K
  try simp only [Act.put, List.getElem_toArray, List.getElem_cons_succ, List.getElem_cons_zero, List.setIfInBounds_toArray, List.set_cons_zero, List.set_cons_succ]
  refine wpAnyH_done (by kernel_rfl) ?_ _
  clear hHeld
  obtain ⟨W9, hW9, B9⟩ : ∃ W9, W9 = _ ∧ CB w h ab db _ _ W9 := ⟨_, rfl, B⟩
  rw [← hW9]
  clear B hW9
  have B := B9
  clear B9
  replace kX := B.x.cell
  replace fX := B.x.free
  replace kB := B.b.cell
  replace kR := B.r.cell
  replace fR := B.r.free
  replace kH := B.H.cellsC (c := s.c) rfl
  go_wp2_with fail
  replace B := B.set 0 (.int .i64 9)
  refine bodyPost_ret (v := .tuple #[.agg #[.int .i64 (9), .int .i64 (j), .int .i64 (c), .int .i64 (m), .int .u64 (a), .int .u64 (p), .bool (found), .int .i64 (tail), .int .i64 (cyc)], .bool true]) (by simp [results, Try.results55, go_sem, kX, kR]) rfl ⟨rfl, ?_⟩
  exact B.done _ _ _ _ _ _ _ _ _


set_option maxRecDepth 100000 in
set_option maxHeartbeats 4000000 in
theorem pa9m {w : World} {h ab db : Nat} {s : HS} (H : HAt w h ab db s) (j c m a p tail cyc : Int) (found : Bool) (hc : -1000000 ≤ c ∧ c ≤ 1000000) (hl : c + 1 < s.c.cells) :
    Calls Try.prog 55 #[.pointer (some ⟨h, 0, none⟩), .agg #[.int .i64 (9), .int .i64 (j), .int .i64 (c), .int .i64 (m), .int .u64 (a), .int .u64 (p), .bool (found), .int .i64 (tail), .int .i64 (cyc)]] w fun e w' => e = .returned (.tuple #[.agg #[.int .i64 (4), .int .i64 (j), .int .i64 (c + 1), .int .i64 (m), .int .u64 (0), .int .u64 (p), .bool (true), .int .i64 (tail), .int .i64 (cyc)], .bool true]) ∧ (HAt w' h ab db (s.doIt (aStore (s.c.cellP 2 c) 2)) ∧ Fr [h, db] w w') := by
  have hmf : ∀ (fn : Fn) (first cap : Array Value) (w : World), (Instr.makeFunc fn first cap).run Try.prog w = .ok (.func fn first cap) w := fun _ _ _ _ => rfl
  have B := CB.start H [.int .i64 (9), .int .i64 (j), .int .i64 (c), .int .i64 (m), .int .u64 (a), .int .u64 (p), .bool (found), .int .i64 (tail), .int .i64 (cyc)]
  have n0 := B.l1
  have n1 := B.l3
  have n2 := B.l2
  have hrr := H.right
  (try replace hl := hid hl)
  (try have hlH := hl)
  (try replace hf := hid hf)
  (try have hfH := hf)

  clear H
  simp only [zCol] at B
  replace kX := B.x.cell
  replace fX := B.x.free
  replace kB := B.b.cell
  replace kR := B.r.cell
  replace fR := B.r.free
  replace kH := B.H.cellsC (c := s.c) rfl
  go_enter Try.func55, Try.ntmps55
  go_upto_region 21 with fail
  replace B := B.drew
  refine wp_region_held_drew (S := (fun (W : World) => W.cell? ⟨w.heap.size, 0, none⟩ = some (.pointer (some ⟨h, 0, none⟩)) ∧ W.cell? ⟨w.heap.size + 1, 2, none⟩ = some (.int .i64 c) ∧ W.cell? ⟨h, 1, none⟩ = some (.int .i64 s.c.cells) ∧ W.cell? ⟨h, 2, none⟩ = some (.int .i64 s.c.muts) ∧ W.cell? ⟨h, 3, none⟩ = some (.int .i64 s.c.regs) ∧ W.cell? ⟨h, 4, none⟩ = some (.int .i64 s.c.globs))) (by kernel_rfl) (by exact ⟨B.b.cell 0, B.x.cell 2, B.H.blk.cell 1, B.H.blk.cell 2, B.H.blk.cell 3, B.H.blk.cell 4⟩) (fun hHeld => ?_)
  refine wpAnyH_take (i := 0) (v := ?_) rfl (by kernel_rfl) (by kernel_rfl) (by kernel_rfl) (fun _ _ _ h => h) (Or.inl ⟨by rfl, ?_⟩) (by assumption) ?_
  rotate_left
  · intro w hSw; (try dsimp only at hSw); go_simp; first | done | with_reducible rfl
  try simp only [Act.put, List.getElem_toArray, List.getElem_cons_succ, List.getElem_cons_zero, List.setIfInBounds_toArray, List.set_cons_zero, List.set_cons_succ]
  refine wpAnyH_take (i := 1) (v := ?_) rfl (by kernel_rfl) (by kernel_rfl) (by kernel_rfl) (fun _ _ _ h => h) (Or.inl ⟨by rfl, ?_⟩) (by assumption) ?_
  rotate_left
  · intro w hSw; (try dsimp only at hSw); go_simp; first | done | with_reducible rfl
  try simp only [Act.put, List.getElem_toArray, List.getElem_cons_succ, List.getElem_cons_zero, List.setIfInBounds_toArray, List.set_cons_zero, List.set_cons_succ]
  refine wpAnyH_take (i := 2) (v := ?_) rfl (by kernel_rfl) (by kernel_rfl) (by kernel_rfl) (fun _ _ _ h => h) (Or.inl ⟨by rfl, ?_⟩) (by assumption) ?_
  rotate_left
  · intro w hSw; (try dsimp only at hSw); go_simp; first | done | with_reducible rfl
  try simp only [Act.put, List.getElem_toArray, List.getElem_cons_succ, List.getElem_cons_zero, List.setIfInBounds_toArray, List.set_cons_zero, List.set_cons_succ]
  refine wpAnyH_take (i := 3) (v := ?_) rfl (by kernel_rfl) (by kernel_rfl) (by kernel_rfl) (fun _ _ _ h => h) (Or.inl ⟨by rfl, ?_⟩) (by assumption) ?_
  rotate_left
  · intro w hSw; (try dsimp only at hSw); go_simp; first | done | with_reducible rfl
  try simp only [Act.put, List.getElem_toArray, List.getElem_cons_succ, List.getElem_cons_zero, List.setIfInBounds_toArray, List.set_cons_zero, List.set_cons_succ]
  refine wpAnyH_take (i := 4) (v := ?_) rfl (by kernel_rfl) (by kernel_rfl) (by kernel_rfl) (fun _ _ _ h => h) (Or.inl ⟨by rfl, ?_⟩) (by assumption) ?_
  rotate_left
  · intro w hSw; (try dsimp only at hSw); go_simp; first | done | with_reducible rfl
  try simp only [Act.put, List.getElem_toArray, List.getElem_cons_succ, List.getElem_cons_zero, List.setIfInBounds_toArray, List.set_cons_zero, List.set_cons_succ]
  refine wpAnyH_take (i := 5) (v := ?_) rfl (by kernel_rfl) (by kernel_rfl) (by kernel_rfl) (fun _ _ _ h => h) (Or.inl ⟨by rfl, ?_⟩) (by assumption) ?_
  rotate_left
  · intro w hSw; (try dsimp only at hSw); go_simp; first | done | with_reducible rfl
  try simp only [Act.put, List.getElem_toArray, List.getElem_cons_succ, List.getElem_cons_zero, List.setIfInBounds_toArray, List.set_cons_zero, List.set_cons_succ]
  refine wpAnyH_take (i := 6) (v := ?_) rfl (by kernel_rfl) (by kernel_rfl) (by kernel_rfl) (fun _ _ _ h => h) (Or.inl ⟨by rfl, ?_⟩) (by assumption) ?_
  rotate_left
  · intro w hSw; (try dsimp only at hSw); go_simp; first | done | with_reducible rfl
  try simp only [Act.put, List.getElem_toArray, List.getElem_cons_succ, List.getElem_cons_zero, List.setIfInBounds_toArray, List.set_cons_zero, List.set_cons_succ]
  refine wpAnyH_ready (rs := [7]) (by kernel_rfl) (by simp) ?_
  refine AllReadyH.cons rfl (fun K hK => ?_) AllReadyH.nil
  go_simp
  (go_at_call 136; refine (colour_any hrr _ _).mono ?_; rintro e w2 ⟨rfl, hF2⟩; (replace B := B.kept0 hF2); (replace kX := B.x.cell); (replace fX := B.x.free); (replace kB := B.b.cell); (replace kR := B.r.cell); (replace fR := B.r.free); (replace kH := B.H.cellsC (c := s.c) rfl))
  go_wp2_with fail
  refine hK.out _ _ (by exact ⟨B.b.cell 0, B.x.cell 2, B.H.blk.cell 1, B.H.blk.cell 2, B.H.blk.cell 3, B.H.blk.cell 4⟩) (fun hHeld => ?_)
  clear hK K
  try simp only [Act.put, List.getElem_toArray, List.getElem_cons_succ, List.getElem_cons_zero, List.setIfInBounds_toArray, List.set_cons_zero, List.set_cons_succ]
  refine wpAnyH_ready (rs := [8]) (by kernel_rfl) (by simp) ?_
  refine AllReadyH.cons rfl (fun K hK => ?_) AllReadyH.nil
  go_simp
  (go_at_call 39; refine (hstore_any B.H _ _ (by omega)).mono ?_; rintro e w2 ⟨rfl, HH, hF2⟩; (replace B := B.hand HH hF2); clear HH; (replace kX := B.x.cell); (replace fX := B.x.free); (replace kB := B.b.cell); (replace kR := B.r.cell); (replace fR := B.r.free); (replace kH := B.H.cellsC (c := s.c) rfl))
  go_wp2_with fail
  refine hK.out _ _ (by exact ⟨B.b.cell 0, B.x.cell 2, B.H.blk.cell 1, B.H.blk.cell 2, B.H.blk.cell 3, B.H.blk.cell 4⟩) (fun hHeld => ?_)
  clear hK K
  try simp only [Act.put, List.getElem_toArray, List.getElem_cons_succ, List.getElem_cons_zero, List.setIfInBounds_toArray, List.set_cons_zero, List.set_cons_succ]
  refine wpAnyH_done (by kernel_rfl) ?_ _
  clear hHeld
  obtain ⟨W9, hW9, B9⟩ : ∃ W9, W9 = _ ∧ CB w h ab db _ _ W9 := ⟨_, rfl, B⟩
  rw [← hW9]
  clear B hW9
  have B := B9
  clear B9
  replace kX := B.x.cell
  replace fX := B.x.free
  replace kB := B.b.cell
  replace kR := B.r.cell
  replace fR := B.r.free
  replace kH := B.H.cellsC (c := s.c) rfl
  go_wp2_with (first | (go_at_call 145; (replace B := B.set 4 (.int .u64 0)); (replace B := B.set 6 (.bool true)); simp only [List.set_cons_zero, List.set_cons_succ] at B; refine (passnext_more B.H _ _ _ _ _ _ _ _ _ hc hlH.out).mono ?_; rintro e w2 ⟨rfl, _, hF2⟩; (replace B := B.kept0 hF2); (replace kX := B.x.cell); (replace fX := B.x.free); (replace kB := B.b.cell); (replace kR := B.r.cell); (replace fR := B.r.free); (replace kH := B.H.cellsC (c := s.c) rfl)))
  refine bodyPost_ret (v := .tuple #[.agg #[.int .i64 (4), .int .i64 (j), .int .i64 (c + 1), .int .i64 (m), .int .u64 (0), .int .u64 (p), .bool (true), .int .i64 (tail), .int .i64 (cyc)], .bool true]) (by simp [results, Try.results55, go_sem, kX, kR]) rfl ⟨rfl, ?_⟩
  exact B.done _ _ _ _ _ _ _ _ _


set_option maxRecDepth 100000 in
set_option maxHeartbeats 4000000 in
theorem pa9f {w : World} {h ab db : Nat} {s : HS} (H : HAt w h ab db s) (j c m a p tail cyc : Int) (found : Bool) (hc : -1000000 ≤ c ∧ c ≤ 1000000) (hl : s.c.cells ≤ c + 1) :
    Calls Try.prog 55 #[.pointer (some ⟨h, 0, none⟩), .agg #[.int .i64 (9), .int .i64 (j), .int .i64 (c), .int .i64 (m), .int .u64 (a), .int .u64 (p), .bool (found), .int .i64 (tail), .int .i64 (cyc)]] w fun e w' => e = .returned (.tuple #[.agg #[.int .i64 (3), .int .i64 (j), .int .i64 (c + 1), .int .i64 (m), .int .u64 (0), .int .u64 (p), .bool (true), .int .i64 (tail), .int .i64 (cyc)], .bool true]) ∧ (HAt w' h ab db (s.doIt (aStore (s.c.cellP 2 c) 2)) ∧ Fr [h, db] w w') := by
  have hmf : ∀ (fn : Fn) (first cap : Array Value) (w : World), (Instr.makeFunc fn first cap).run Try.prog w = .ok (.func fn first cap) w := fun _ _ _ _ => rfl
  have B := CB.start H [.int .i64 (9), .int .i64 (j), .int .i64 (c), .int .i64 (m), .int .u64 (a), .int .u64 (p), .bool (found), .int .i64 (tail), .int .i64 (cyc)]
  have n0 := B.l1
  have n1 := B.l3
  have n2 := B.l2
  have hrr := H.right
  (try replace hl := hid hl)
  (try have hlH := hl)
  (try replace hf := hid hf)
  (try have hfH := hf)

  clear H
  simp only [zCol] at B
  replace kX := B.x.cell
  replace fX := B.x.free
  replace kB := B.b.cell
  replace kR := B.r.cell
  replace fR := B.r.free
  replace kH := B.H.cellsC (c := s.c) rfl
  go_enter Try.func55, Try.ntmps55
  go_upto_region 21 with fail
  replace B := B.drew
  refine wp_region_held_drew (S := (fun (W : World) => W.cell? ⟨w.heap.size, 0, none⟩ = some (.pointer (some ⟨h, 0, none⟩)) ∧ W.cell? ⟨w.heap.size + 1, 2, none⟩ = some (.int .i64 c) ∧ W.cell? ⟨h, 1, none⟩ = some (.int .i64 s.c.cells) ∧ W.cell? ⟨h, 2, none⟩ = some (.int .i64 s.c.muts) ∧ W.cell? ⟨h, 3, none⟩ = some (.int .i64 s.c.regs) ∧ W.cell? ⟨h, 4, none⟩ = some (.int .i64 s.c.globs))) (by kernel_rfl) (by exact ⟨B.b.cell 0, B.x.cell 2, B.H.blk.cell 1, B.H.blk.cell 2, B.H.blk.cell 3, B.H.blk.cell 4⟩) (fun hHeld => ?_)
  refine wpAnyH_take (i := 0) (v := ?_) rfl (by kernel_rfl) (by kernel_rfl) (by kernel_rfl) (fun _ _ _ h => h) (Or.inl ⟨by rfl, ?_⟩) (by assumption) ?_
  rotate_left
  · intro w hSw; (try dsimp only at hSw); go_simp; first | done | with_reducible rfl
  try simp only [Act.put, List.getElem_toArray, List.getElem_cons_succ, List.getElem_cons_zero, List.setIfInBounds_toArray, List.set_cons_zero, List.set_cons_succ]
  refine wpAnyH_take (i := 1) (v := ?_) rfl (by kernel_rfl) (by kernel_rfl) (by kernel_rfl) (fun _ _ _ h => h) (Or.inl ⟨by rfl, ?_⟩) (by assumption) ?_
  rotate_left
  · intro w hSw; (try dsimp only at hSw); go_simp; first | done | with_reducible rfl
  try simp only [Act.put, List.getElem_toArray, List.getElem_cons_succ, List.getElem_cons_zero, List.setIfInBounds_toArray, List.set_cons_zero, List.set_cons_succ]
  refine wpAnyH_take (i := 2) (v := ?_) rfl (by kernel_rfl) (by kernel_rfl) (by kernel_rfl) (fun _ _ _ h => h) (Or.inl ⟨by rfl, ?_⟩) (by assumption) ?_
  rotate_left
  · intro w hSw; (try dsimp only at hSw); go_simp; first | done | with_reducible rfl
  try simp only [Act.put, List.getElem_toArray, List.getElem_cons_succ, List.getElem_cons_zero, List.setIfInBounds_toArray, List.set_cons_zero, List.set_cons_succ]
  refine wpAnyH_take (i := 3) (v := ?_) rfl (by kernel_rfl) (by kernel_rfl) (by kernel_rfl) (fun _ _ _ h => h) (Or.inl ⟨by rfl, ?_⟩) (by assumption) ?_
  rotate_left
  · intro w hSw; (try dsimp only at hSw); go_simp; first | done | with_reducible rfl
  try simp only [Act.put, List.getElem_toArray, List.getElem_cons_succ, List.getElem_cons_zero, List.setIfInBounds_toArray, List.set_cons_zero, List.set_cons_succ]
  refine wpAnyH_take (i := 4) (v := ?_) rfl (by kernel_rfl) (by kernel_rfl) (by kernel_rfl) (fun _ _ _ h => h) (Or.inl ⟨by rfl, ?_⟩) (by assumption) ?_
  rotate_left
  · intro w hSw; (try dsimp only at hSw); go_simp; first | done | with_reducible rfl
  try simp only [Act.put, List.getElem_toArray, List.getElem_cons_succ, List.getElem_cons_zero, List.setIfInBounds_toArray, List.set_cons_zero, List.set_cons_succ]
  refine wpAnyH_take (i := 5) (v := ?_) rfl (by kernel_rfl) (by kernel_rfl) (by kernel_rfl) (fun _ _ _ h => h) (Or.inl ⟨by rfl, ?_⟩) (by assumption) ?_
  rotate_left
  · intro w hSw; (try dsimp only at hSw); go_simp; first | done | with_reducible rfl
  try simp only [Act.put, List.getElem_toArray, List.getElem_cons_succ, List.getElem_cons_zero, List.setIfInBounds_toArray, List.set_cons_zero, List.set_cons_succ]
  refine wpAnyH_take (i := 6) (v := ?_) rfl (by kernel_rfl) (by kernel_rfl) (by kernel_rfl) (fun _ _ _ h => h) (Or.inl ⟨by rfl, ?_⟩) (by assumption) ?_
  rotate_left
  · intro w hSw; (try dsimp only at hSw); go_simp; first | done | with_reducible rfl
  try simp only [Act.put, List.getElem_toArray, List.getElem_cons_succ, List.getElem_cons_zero, List.setIfInBounds_toArray, List.set_cons_zero, List.set_cons_succ]
  refine wpAnyH_ready (rs := [7]) (by kernel_rfl) (by simp) ?_
  refine AllReadyH.cons rfl (fun K hK => ?_) AllReadyH.nil
  go_simp
  (go_at_call 136; refine (colour_any hrr _ _).mono ?_; rintro e w2 ⟨rfl, hF2⟩; (replace B := B.kept0 hF2); (replace kX := B.x.cell); (replace fX := B.x.free); (replace kB := B.b.cell); (replace kR := B.r.cell); (replace fR := B.r.free); (replace kH := B.H.cellsC (c := s.c) rfl))
  go_wp2_with fail
  refine hK.out _ _ (by exact ⟨B.b.cell 0, B.x.cell 2, B.H.blk.cell 1, B.H.blk.cell 2, B.H.blk.cell 3, B.H.blk.cell 4⟩) (fun hHeld => ?_)
  clear hK K
  try simp only [Act.put, List.getElem_toArray, List.getElem_cons_succ, List.getElem_cons_zero, List.setIfInBounds_toArray, List.set_cons_zero, List.set_cons_succ]
  refine wpAnyH_ready (rs := [8]) (by kernel_rfl) (by simp) ?_
  refine AllReadyH.cons rfl (fun K hK => ?_) AllReadyH.nil
  go_simp
  (go_at_call 39; refine (hstore_any B.H _ _ (by omega)).mono ?_; rintro e w2 ⟨rfl, HH, hF2⟩; (replace B := B.hand HH hF2); clear HH; (replace kX := B.x.cell); (replace fX := B.x.free); (replace kB := B.b.cell); (replace kR := B.r.cell); (replace fR := B.r.free); (replace kH := B.H.cellsC (c := s.c) rfl))
  go_wp2_with fail
  refine hK.out _ _ (by exact ⟨B.b.cell 0, B.x.cell 2, B.H.blk.cell 1, B.H.blk.cell 2, B.H.blk.cell 3, B.H.blk.cell 4⟩) (fun hHeld => ?_)
  clear hK K
  try simp only [Act.put, List.getElem_toArray, List.getElem_cons_succ, List.getElem_cons_zero, List.setIfInBounds_toArray, List.set_cons_zero, List.set_cons_succ]
  refine wpAnyH_done (by kernel_rfl) ?_ _
  clear hHeld
  obtain ⟨W9, hW9, B9⟩ : ∃ W9, W9 = _ ∧ CB w h ab db _ _ W9 := ⟨_, rfl, B⟩
  rw [← hW9]
  clear B hW9
  have B := B9
  clear B9
  replace kX := B.x.cell
  replace fX := B.x.free
  replace kB := B.b.cell
  replace kR := B.r.cell
  replace fR := B.r.free
  replace kH := B.H.cellsC (c := s.c) rfl
  go_wp2_with (first | (go_at_call 145; (replace B := B.set 4 (.int .u64 0)); (replace B := B.set 6 (.bool true)); simp only [List.set_cons_zero, List.set_cons_succ] at B; refine (passnext_found B.H _ _ _ _ _ _ _ _ _ hc hlH.out rfl).mono ?_; rintro e w2 ⟨rfl, _, hF2⟩; (replace B := B.kept0 hF2); (replace kX := B.x.cell); (replace fX := B.x.free); (replace kB := B.b.cell); (replace kR := B.r.cell); (replace fR := B.r.free); (replace kH := B.H.cellsC (c := s.c) rfl)))
  refine bodyPost_ret (v := .tuple #[.agg #[.int .i64 (3), .int .i64 (j), .int .i64 (c + 1), .int .i64 (m), .int .u64 (0), .int .u64 (p), .bool (true), .int .i64 (tail), .int .i64 (cyc)], .bool true]) (by simp [results, Try.results55, go_sem, kX, kR]) rfl ⟨rfl, ?_⟩
  exact B.done _ _ _ _ _ _ _ _ _


set_option maxRecDepth 100000 in
set_option maxHeartbeats 4000000 in
theorem pano {w : World} {h ab db : Nat} {s : HS} (H : HAt w h ab db s) (line j c m a p tail cyc : Int) (found : Bool) (k0 : ¬ line = 3) (k1 : ¬ line = 4) (k2 : ¬ line = 5) (k3 : ¬ line = 6) (k4 : ¬ line = 7) (k5 : ¬ line = 8) (k6 : ¬ line = 9) :
    Calls Try.prog 55 #[.pointer (some ⟨h, 0, none⟩), .agg #[.int .i64 (line), .int .i64 (j), .int .i64 (c), .int .i64 (m), .int .u64 (a), .int .u64 (p), .bool (found), .int .i64 (tail), .int .i64 (cyc)]] w fun e w' => e = .returned (.tuple #[.agg #[.int .i64 (line), .int .i64 (j), .int .i64 (c), .int .i64 (m), .int .u64 (a), .int .u64 (p), .bool (found), .int .i64 (tail), .int .i64 (cyc)], .bool false]) ∧ (HAt w' h ab db (s) ∧ Fr [h, db] w w') := by
  have hmf : ∀ (fn : Fn) (first cap : Array Value) (w : World), (Instr.makeFunc fn first cap).run Try.prog w = .ok (.func fn first cap) w := fun _ _ _ _ => rfl
  have B := CB.start H [.int .i64 (line), .int .i64 (j), .int .i64 (c), .int .i64 (m), .int .u64 (a), .int .u64 (p), .bool (found), .int .i64 (tail), .int .i64 (cyc)]
  have n0 := B.l1
  have n1 := B.l3
  have n2 := B.l2
  have hrr := H.right
  have HNo := ((H.alloc (.cells #[.pointer (some ⟨h, 0, none⟩)] 46)).alloc (.cells #[.int .i64 (line), .int .i64 (j), .int .i64 (c), .int .i64 (m), .int .u64 (a), .int .u64 (p), .bool (found), .int .i64 (tail), .int .i64 (cyc)] 81)).alloc (.cells #[.int .i64 (line), .int .i64 (j), .int .i64 (c), .int .i64 (m), .int .u64 (a), .int .u64 (p), .bool (found), .int .i64 (tail), .int .i64 (cyc)] 81)
  have FNo := (((Fr.refl [h, db] w).alloc (.cells #[.pointer (some ⟨h, 0, none⟩)] 46)).alloc (.cells #[.int .i64 (line), .int .i64 (j), .int .i64 (c), .int .i64 (m), .int .u64 (a), .int .u64 (p), .bool (found), .int .i64 (tail), .int .i64 (cyc)] 81)).alloc (.cells #[.int .i64 (line), .int .i64 (j), .int .i64 (c), .int .i64 (m), .int .u64 (a), .int .u64 (p), .bool (found), .int .i64 (tail), .int .i64 (cyc)] 81)
  clear H
  simp only [zCol] at B
  replace kX := B.x.cell
  replace fX := B.x.free
  replace kB := B.b.cell
  replace kR := B.r.cell
  replace fR := B.r.free
  replace kH := B.H.cellsC (c := s.c) rfl
  go_enter Try.func55, Try.ntmps55
  go_wp2_with fail
  refine bodyPost_ret (v := .tuple #[.agg #[.int .i64 (line), .int .i64 (j), .int .i64 (c), .int .i64 (m), .int .u64 (a), .int .u64 (p), .bool (found), .int .i64 (tail), .int .i64 (cyc)], .bool false]) (by simp [results, Try.results55, go_sem]) rfl ⟨rfl, ?_⟩
  exact ⟨HNo, FNo⟩


theorem panil (w : World) (line j c m a p tail cyc : Int) (found : Bool) :
    Calls Try.prog 55 #[.pointer none, .agg #[.int .i64 (line), .int .i64 (j), .int .i64 (c), .int .i64 (m), .int .u64 (a), .int .u64 (p), .bool (found), .int .i64 (tail), .int .i64 (cyc)]] w fun e w' => e = .returned (.tuple #[.agg #[.int .i64 (line), .int .i64 (j), .int .i64 (c), .int .i64 (m), .int .u64 (a), .int .u64 (p), .bool (found), .int .i64 (tail), .int .i64 (cyc)], .bool false]) ∧ Fr [] w w' := by
  go_enter Try.func55, Try.ntmps55
  go_wp2
  exact bodyPost_ret (v := .tuple #[.agg #[.int .i64 (line), .int .i64 (j), .int .i64 (c), .int .i64 (m), .int .u64 (a), .int .u64 (p), .bool (found), .int .i64 (tail), .int .i64 (cyc)], .bool false]) (by simp [results, Try.results55, go_sem]) rfl ⟨rfl, (((Fr.refl _ _).alloc _).alloc _).alloc _⟩

end Go.Proofs.Ytolkgdchinaonaa
