/- mudlarkref16.Step line by line. -/
import Derived.Test.YteggckdgjecfmaaCBox
import Derived.Test.YteggckdgjecfmaaAtAll
import Derived.Test.YteggckdgjecfmaaRefFirst
import Derived.Test.YteggckdgjecfmaaBarrierRef
import Derived.Test.YteggckdgjecfmaaBarRef17
namespace Go.Proofs.Yteggckdgjecfmaa
open Go.RowKit
set_option linter.unusedVariables false
set_option linter.unusedSimpArgs false

theorem rat16_any {w : World} {r rd cap : Nat} {ext : List Value} {s : HS} (H : RAt w r rd cap ext s) (k p i : Int) (hk : k = 4 + p) (hp0 : 0 ≤ p) (hp1 : p ≤ 2) :
    Calls Try.prog 142 #[.pointer (some ⟨r, 0, none⟩), .int .i64 k, .int .i64 i] w fun e w' => e = .returned (.int .i64 (s.c.cellP p i)) ∧ Fr [] w w' := by
  have HA := hid (fun W => rAtAll_any H.right k p i hk ⟨hp0, hp1⟩ W)
  obtain ⟨z, hz⟩ : ∃ z, z = s.c.cellP p i := ⟨_, rfl⟩
  rw [← hz] at HA ⊢
  have kR := H.blk.cell
  clear hz hk
  go_enter Try.func142, Try.ntmps142
  go_wp2_with (first | (go_at_call 76; refine (HA.out _).mono ?_; rintro e w2 ⟨rfl, hF2⟩))
  go_ret
  exact ⟨rfl, hF2⟩

set_option maxRecDepth 100000 in
set_option maxHeartbeats 4000000 in
theorem rpassnext_more {w : World} {r rd cap : Nat} {ext : List Value} {s : HS} (H : RAt w r rd cap ext s) (line j c m a p tail cyc : Int) (found : Bool) (hc : -1000000 ≤ c ∧ c ≤ 1000000) (hl : c + 1 < s.c.cells) :
    Calls Try.prog 143 #[.pointer (some ⟨r, 0, none⟩), .agg #[.int .i64 (line), .int .i64 (j), .int .i64 (c), .int .i64 (m), .int .u64 (a), .int .u64 (p), .bool (found), .int .i64 (tail), .int .i64 (cyc)]] w fun e w' => e = .returned (.agg #[.int .i64 (4), .int .i64 (j), .int .i64 (c + 1), .int .i64 (m), .int .u64 (a), .int .u64 (p), .bool (found), .int .i64 (tail), .int .i64 (cyc)]) ∧ (RAt w' r rd cap ext (s) ∧ Fr [r, rd] w w') := by
  have B := RB.start H [.int .i64 (line), .int .i64 (j), .int .i64 (c), .int .i64 (m), .int .u64 (a), .int .u64 (p), .bool (found), .int .i64 (tail), .int .i64 (cyc)]
  have n0 := B.l1
  have n1 := B.l3
  have hrr := H.right
  have hcw : IntKind.i64.wrap (c + 1) = c + 1 := w64 _ (by omega)
  have H0 := H
  have gl : decide (c + 1 < s.c.cells) = true := by simpa using hl

  clear H
  simp only [zCol] at B
  replace kX := B.x.cell
  replace fX := B.x.free
  replace kR := B.z.cell
  replace fR := B.z.free
  replace kH := B.H.cellsC (c := s.c) rfl
  go_enter Try.func143, Try.ntmps143
  go_upto_region 2 with fail
  replace B := RB.start H0 [.int .i64 (line), .int .i64 (j), .int .i64 (c + 1), .int .i64 (m), .int .u64 (a), .int .u64 (p), .bool (found), .int .i64 (tail), .int .i64 (cyc)]
  simp only [zCol] at B
  replace kX := B.x.cell
  replace fX := B.x.free
  replace kR := B.z.cell
  replace fR := B.z.free
  replace kH := B.H.cellsC (c := s.c) rfl
  replace B := B.drew
  refine wp_region_held_drew (S := (fun (W : World) => W.cell? ⟨w.heap.size, 2, none⟩ = some (.int .i64 (c + 1)) ∧ W.cell? ⟨r, 0, none⟩ = some (.int .i64 s.c.cells) ∧ W.cell? ⟨r, 1, none⟩ = some (.int .i64 s.c.muts) ∧ W.cell? ⟨r, 2, none⟩ = some (.int .i64 s.c.regs) ∧ W.cell? ⟨r, 3, none⟩ = some (.int .i64 s.c.globs))) (by kernel_rfl) (by exact ⟨B.x.cell 2, B.H.blk.cell 0, B.H.blk.cell 1, B.H.blk.cell 2, B.H.blk.cell 3⟩) (fun hHeld => ?_)
  refine wpAnyH_take (i := 0) (v := ?_) rfl (by kernel_rfl) (by kernel_rfl) (by kernel_rfl) (fun _ _ _ h => h) (Or.inl ⟨by rfl, ?_⟩) (by assumption) ?_
  rotate_left
  · intro w hSw; (try dsimp only at hSw); go_simp; first | done | with_reducible rfl
  try simp only [Act.put, List.getElem_toArray, List.getElem_cons_succ, List.getElem_cons_zero, List.setIfInBounds_toArray, List.set_cons_zero, List.set_cons_succ]
  refine wpAnyH_take (i := 1) (v := ?_) rfl (by kernel_rfl) (by kernel_rfl) (by kernel_rfl) (fun _ _ _ h => h) (Or.inl ⟨by rfl, ?_⟩) (by assumption) ?_
  rotate_left
  · intro w hSw; (try dsimp only at hSw); go_simp; first | done | with_reducible rfl
  try simp only [Act.put, List.getElem_toArray, List.getElem_cons_succ, List.getElem_cons_zero, List.setIfInBounds_toArray, List.set_cons_zero, List.set_cons_succ]
  refine wpAnyH_take (i := 2) (v := ?_) rfl (by kernel_rfl) (by kernel_rfl) (by kernel_rfl) (fun _ _ _ h => h) (Or.inl ⟨by rfl, ?_⟩) (by assumption) ?_
  rotate_left
  · intro w hSw; (try dsimp only at hSw); go_simp; first | done | with_reducible rfl
  try simp only [Act.put, List.getElem_toArray, List.getElem_cons_succ, List.getElem_cons_zero, List.setIfInBounds_toArray, List.set_cons_zero, List.set_cons_succ]
  refine wpAnyH_take (i := 3) (v := ?_) rfl (by kernel_rfl) (by kernel_rfl) (by kernel_rfl) (fun _ _ _ h => h) (Or.inl ⟨by rfl, ?_⟩) (by assumption) ?_
  rotate_left
  · intro w hSw; (try dsimp only at hSw); go_simp; first | done | with_reducible rfl
  try simp only [Act.put, List.getElem_toArray, List.getElem_cons_succ, List.getElem_cons_zero, List.setIfInBounds_toArray, List.set_cons_zero, List.set_cons_succ]
  refine wpAnyH_take (i := 4) (v := ?_) rfl (by kernel_rfl) (by kernel_rfl) (by kernel_rfl) (fun _ _ _ h => h) (Or.inl ⟨by rfl, ?_⟩) (by assumption) ?_
  rotate_left
  · intro w hSw; (try dsimp only at hSw); go_simp; first | done | with_reducible rfl
  try simp only [Act.put, List.getElem_toArray, List.getElem_cons_succ, List.getElem_cons_zero, List.setIfInBounds_toArray, List.set_cons_zero, List.set_cons_succ]
  refine wpAnyH_take (i := 5) (v := ?_) rfl (by kernel_rfl) (by kernel_rfl) (by kernel_rfl) (fun _ _ _ h => h) (Or.inl ⟨by rfl, ?_⟩) (by assumption) ?_
  rotate_left
  · intro w hSw; (try dsimp only at hSw); go_simp; first | done | with_reducible rfl
  try simp only [Act.put, List.getElem_toArray, List.getElem_cons_succ, List.getElem_cons_zero, List.setIfInBounds_toArray, List.set_cons_zero, List.set_cons_succ]
  refine wpAnyH_take (i := 6) (v := ?_) rfl (by kernel_rfl) (by kernel_rfl) (by kernel_rfl) (fun _ _ _ h => h) (Or.inl ⟨by rfl, ?_⟩) (by assumption) ?_
  rotate_left
  · intro w hSw; (try dsimp only at hSw); go_simp; first | done | with_reducible rfl
  try simp only [Act.put, List.getElem_toArray, List.getElem_cons_succ, List.getElem_cons_zero, List.setIfInBounds_toArray, List.set_cons_zero, List.set_cons_succ]
  refine wpAnyH_take (i := 7) (v := ?_) rfl (by kernel_rfl) (by kernel_rfl) (by kernel_rfl) (fun _ _ _ h => h) (Or.inl ⟨by rfl, ?_⟩) (by assumption) ?_
  rotate_left
  · intro w hSw; (try dsimp only at hSw); go_simp; first | done | with_reducible rfl
  try simp only [Act.put, List.getElem_toArray, List.getElem_cons_succ, List.getElem_cons_zero, List.setIfInBounds_toArray, List.set_cons_zero, List.set_cons_succ]
  refine wpAnyH_done (by kernel_rfl) ?_ _
  clear hHeld
  obtain ⟨W9, hW9, B9⟩ : ∃ W9, W9 = _ ∧ RB w r rd cap ext _ _ W9 := ⟨_, rfl, B⟩
  rw [← hW9]
  clear B hW9
  have B := B9
  clear B9
  replace kX := B.x.cell
  replace fX := B.x.free
  replace kR := B.z.cell
  replace fR := B.z.free
  replace kH := B.H.cellsC (c := s.c) rfl
  go_wp2_with fail
  replace B := B.set 0 (.int .i64 4)
  refine bodyPost_ret (v := .agg #[.int .i64 (4), .int .i64 (j), .int .i64 (c + 1), .int .i64 (m), .int .u64 (a), .int .u64 (p), .bool (found), .int .i64 (tail), .int .i64 (cyc)]) (by simp [results, Try.results143, go_sem, kX, kR]) rfl ⟨rfl, ?_⟩
  exact B.done _ _ _ _ _ _ _ _ _


set_option maxRecDepth 100000 in
set_option maxHeartbeats 4000000 in
theorem rpassnext_found {w : World} {r rd cap : Nat} {ext : List Value} {s : HS} (H : RAt w r rd cap ext s) (line j c m a p tail cyc : Int) (found : Bool) (hc : -1000000 ≤ c ∧ c ≤ 1000000) (hl : s.c.cells ≤ c + 1) (hf : found = true) :
    Calls Try.prog 143 #[.pointer (some ⟨r, 0, none⟩), .agg #[.int .i64 (line), .int .i64 (j), .int .i64 (c), .int .i64 (m), .int .u64 (a), .int .u64 (p), .bool (found), .int .i64 (tail), .int .i64 (cyc)]] w fun e w' => e = .returned (.agg #[.int .i64 (3), .int .i64 (j), .int .i64 (c + 1), .int .i64 (m), .int .u64 (a), .int .u64 (p), .bool (found), .int .i64 (tail), .int .i64 (cyc)]) ∧ (RAt w' r rd cap ext (s) ∧ Fr [r, rd] w w') := by
  have B := RB.start H [.int .i64 (line), .int .i64 (j), .int .i64 (c), .int .i64 (m), .int .u64 (a), .int .u64 (p), .bool true, .int .i64 (tail), .int .i64 (cyc)]
  have n0 := B.l1
  have n1 := B.l3
  have hrr := H.right
  have hcw : IntKind.i64.wrap (c + 1) = c + 1 := w64 _ (by omega)
  have H0 := H
  subst hf
  have gl : decide (c + 1 < s.c.cells) = false := by simpa using hl

  clear H
  simp only [zCol] at B
  replace kX := B.x.cell
  replace fX := B.x.free
  replace kR := B.z.cell
  replace fR := B.z.free
  replace kH := B.H.cellsC (c := s.c) rfl
  go_enter Try.func143, Try.ntmps143
  go_upto_region 2 with fail
  replace B := RB.start H0 [.int .i64 (line), .int .i64 (j), .int .i64 (c + 1), .int .i64 (m), .int .u64 (a), .int .u64 (p), .bool true, .int .i64 (tail), .int .i64 (cyc)]
  simp only [zCol] at B
  replace kX := B.x.cell
  replace fX := B.x.free
  replace kR := B.z.cell
  replace fR := B.z.free
  replace kH := B.H.cellsC (c := s.c) rfl
  replace B := B.drew
  refine wp_region_held_drew (S := (fun (W : World) => W.cell? ⟨w.heap.size, 2, none⟩ = some (.int .i64 (c + 1)) ∧ W.cell? ⟨r, 0, none⟩ = some (.int .i64 s.c.cells) ∧ W.cell? ⟨r, 1, none⟩ = some (.int .i64 s.c.muts) ∧ W.cell? ⟨r, 2, none⟩ = some (.int .i64 s.c.regs) ∧ W.cell? ⟨r, 3, none⟩ = some (.int .i64 s.c.globs))) (by kernel_rfl) (by exact ⟨B.x.cell 2, B.H.blk.cell 0, B.H.blk.cell 1, B.H.blk.cell 2, B.H.blk.cell 3⟩) (fun hHeld => ?_)
  refine wpAnyH_take (i := 0) (v := ?_) rfl (by kernel_rfl) (by kernel_rfl) (by kernel_rfl) (fun _ _ _ h => h) (Or.inl ⟨by rfl, ?_⟩) (by assumption) ?_
  rotate_left
  · intro w hSw; (try dsimp only at hSw); go_simp; first | done | with_reducible rfl
  try simp only [Act.put, List.getElem_toArray, List.getElem_cons_succ, List.getElem_cons_zero, List.setIfInBounds_toArray, List.set_cons_zero, List.set_cons_succ]
  refine wpAnyH_take (i := 1) (v := ?_) rfl (by kernel_rfl) (by kernel_rfl) (by kernel_rfl) (fun _ _ _ h => h) (Or.inl ⟨by rfl, ?_⟩) (by assumption) ?_
  rotate_left
  · intro w hSw; (try dsimp only at hSw); go_simp; first | done | with_reducible rfl
  try simp only [Act.put, List.getElem_toArray, List.getElem_cons_succ, List.getElem_cons_zero, List.setIfInBounds_toArray, List.set_cons_zero, List.set_cons_succ]
  refine wpAnyH_take (i := 2) (v := ?_) rfl (by kernel_rfl) (by kernel_rfl) (by kernel_rfl) (fun _ _ _ h => h) (Or.inl ⟨by rfl, ?_⟩) (by assumption) ?_
  rotate_left
  · intro w hSw; (try dsimp only at hSw); go_simp; first | done | with_reducible rfl
  try simp only [Act.put, List.getElem_toArray, List.getElem_cons_succ, List.getElem_cons_zero, List.setIfInBounds_toArray, List.set_cons_zero, List.set_cons_succ]
  refine wpAnyH_take (i := 3) (v := ?_) rfl (by kernel_rfl) (by kernel_rfl) (by kernel_rfl) (fun _ _ _ h => h) (Or.inl ⟨by rfl, ?_⟩) (by assumption) ?_
  rotate_left
  · intro w hSw; (try dsimp only at hSw); go_simp; first | done | with_reducible rfl
  try simp only [Act.put, List.getElem_toArray, List.getElem_cons_succ, List.getElem_cons_zero, List.setIfInBounds_toArray, List.set_cons_zero, List.set_cons_succ]
  refine wpAnyH_take (i := 4) (v := ?_) rfl (by kernel_rfl) (by kernel_rfl) (by kernel_rfl) (fun _ _ _ h => h) (Or.inl ⟨by rfl, ?_⟩) (by assumption) ?_
  rotate_left
  · intro w hSw; (try dsimp only at hSw); go_simp; first | done | with_reducible rfl
  try simp only [Act.put, List.getElem_toArray, List.getElem_cons_succ, List.getElem_cons_zero, List.setIfInBounds_toArray, List.set_cons_zero, List.set_cons_succ]
  refine wpAnyH_take (i := 5) (v := ?_) rfl (by kernel_rfl) (by kernel_rfl) (by kernel_rfl) (fun _ _ _ h => h) (Or.inl ⟨by rfl, ?_⟩) (by assumption) ?_
  rotate_left
  · intro w hSw; (try dsimp only at hSw); go_simp; first | done | with_reducible rfl
  try simp only [Act.put, List.getElem_toArray, List.getElem_cons_succ, List.getElem_cons_zero, List.setIfInBounds_toArray, List.set_cons_zero, List.set_cons_succ]
  refine wpAnyH_take (i := 6) (v := ?_) rfl (by kernel_rfl) (by kernel_rfl) (by kernel_rfl) (fun _ _ _ h => h) (Or.inl ⟨by rfl, ?_⟩) (by assumption) ?_
  rotate_left
  · intro w hSw; (try dsimp only at hSw); go_simp; first | done | with_reducible rfl
  try simp only [Act.put, List.getElem_toArray, List.getElem_cons_succ, List.getElem_cons_zero, List.setIfInBounds_toArray, List.set_cons_zero, List.set_cons_succ]
  refine wpAnyH_take (i := 7) (v := ?_) rfl (by kernel_rfl) (by kernel_rfl) (by kernel_rfl) (fun _ _ _ h => h) (Or.inl ⟨by rfl, ?_⟩) (by assumption) ?_
  rotate_left
  · intro w hSw; (try dsimp only at hSw); go_simp; first | done | with_reducible rfl
  try simp only [Act.put, List.getElem_toArray, List.getElem_cons_succ, List.getElem_cons_zero, List.setIfInBounds_toArray, List.set_cons_zero, List.set_cons_succ]
  refine wpAnyH_done (by kernel_rfl) ?_ _
  clear hHeld
  obtain ⟨W9, hW9, B9⟩ : ∃ W9, W9 = _ ∧ RB w r rd cap ext _ _ W9 := ⟨_, rfl, B⟩
  rw [← hW9]
  clear B hW9
  have B := B9
  clear B9
  replace kX := B.x.cell
  replace fX := B.x.free
  replace kR := B.z.cell
  replace fR := B.z.free
  replace kH := B.H.cellsC (c := s.c) rfl
  go_wp2_with fail
  replace B := B.set 0 (.int .i64 3)
  refine bodyPost_ret (v := .agg #[.int .i64 (3), .int .i64 (j), .int .i64 (c + 1), .int .i64 (m), .int .u64 (a), .int .u64 (p), .bool true, .int .i64 (tail), .int .i64 (cyc)]) (by simp [results, Try.results143, go_sem, kX, kR]) rfl ⟨rfl, ?_⟩
  exact B.done _ _ _ _ _ _ _ _ _


set_option maxRecDepth 100000 in
set_option maxHeartbeats 4000000 in
theorem rpassnext_over {w : World} {r rd cap : Nat} {ext : List Value} {s : HS} (H : RAt w r rd cap ext s) (line j c m a p tail cyc : Int) (found : Bool) (hc : -1000000 ≤ c ∧ c ≤ 1000000) (hl : s.c.cells ≤ c + 1) (hf : found = false) :
    Calls Try.prog 143 #[.pointer (some ⟨r, 0, none⟩), .agg #[.int .i64 (line), .int .i64 (j), .int .i64 (c), .int .i64 (m), .int .u64 (a), .int .u64 (p), .bool (found), .int .i64 (tail), .int .i64 (cyc)]] w fun e w' => e = .returned (.agg #[.int .i64 (10), .int .i64 (j), .int .i64 (c + 1), .int .i64 (0), .int .u64 (a), .int .u64 (p), .bool (found), .int .i64 (tail), .int .i64 (cyc)]) ∧ (RAt w' r rd cap ext (s) ∧ Fr [r, rd] w w') := by
  have B := RB.start H [.int .i64 (line), .int .i64 (j), .int .i64 (c), .int .i64 (m), .int .u64 (a), .int .u64 (p), .bool false, .int .i64 (tail), .int .i64 (cyc)]
  have n0 := B.l1
  have n1 := B.l3
  have hrr := H.right
  have hcw : IntKind.i64.wrap (c + 1) = c + 1 := w64 _ (by omega)
  have H0 := H
  subst hf
  have gl : decide (c + 1 < s.c.cells) = false := by simpa using hl

  clear H
  simp only [zCol] at B
  replace kX := B.x.cell
  replace fX := B.x.free
  replace kR := B.z.cell
  replace fR := B.z.free
  replace kH := B.H.cellsC (c := s.c) rfl
  go_enter Try.func143, Try.ntmps143
  go_upto_region 2 with fail
  replace B := RB.start H0 [.int .i64 (line), .int .i64 (j), .int .i64 (c + 1), .int .i64 (m), .int .u64 (a), .int .u64 (p), .bool false, .int .i64 (tail), .int .i64 (cyc)]
  simp only [zCol] at B
  replace kX := B.x.cell
  replace fX := B.x.free
  replace kR := B.z.cell
  replace fR := B.z.free
  replace kH := B.H.cellsC (c := s.c) rfl
  replace B := B.drew
  refine wp_region_held_drew (S := (fun (W : World) => W.cell? ⟨w.heap.size, 2, none⟩ = some (.int .i64 (c + 1)) ∧ W.cell? ⟨r, 0, none⟩ = some (.int .i64 s.c.cells) ∧ W.cell? ⟨r, 1, none⟩ = some (.int .i64 s.c.muts) ∧ W.cell? ⟨r, 2, none⟩ = some (.int .i64 s.c.regs) ∧ W.cell? ⟨r, 3, none⟩ = some (.int .i64 s.c.globs))) (by kernel_rfl) (by exact ⟨B.x.cell 2, B.H.blk.cell 0, B.H.blk.cell 1, B.H.blk.cell 2, B.H.blk.cell 3⟩) (fun hHeld => ?_)
  refine wpAnyH_take (i := 0) (v := ?_) rfl (by kernel_rfl) (by kernel_rfl) (by kernel_rfl) (fun _ _ _ h => h) (Or.inl ⟨by rfl, ?_⟩) (by assumption) ?_
  rotate_left
  · intro w hSw; (try dsimp only at hSw); go_simp; first | done | with_reducible rfl
  try simp only [Act.put, List.getElem_toArray, List.getElem_cons_succ, List.getElem_cons_zero, List.setIfInBounds_toArray, List.set_cons_zero, List.set_cons_succ]
  refine wpAnyH_take (i := 1) (v := ?_) rfl (by kernel_rfl) (by kernel_rfl) (by kernel_rfl) (fun _ _ _ h => h) (Or.inl ⟨by rfl, ?_⟩) (by assumption) ?_
  rotate_left
  · intro w hSw; (try dsimp only at hSw); go_simp; first | done | with_reducible rfl
  try simp only [Act.put, List.getElem_toArray, List.getElem_cons_succ, List.getElem_cons_zero, List.setIfInBounds_toArray, List.set_cons_zero, List.set_cons_succ]
  refine wpAnyH_take (i := 2) (v := ?_) rfl (by kernel_rfl) (by kernel_rfl) (by kernel_rfl) (fun _ _ _ h => h) (Or.inl ⟨by rfl, ?_⟩) (by assumption) ?_
  rotate_left
  · intro w hSw; (try dsimp only at hSw); go_simp; first | done | with_reducible rfl
  try simp only [Act.put, List.getElem_toArray, List.getElem_cons_succ, List.getElem_cons_zero, List.setIfInBounds_toArray, List.set_cons_zero, List.set_cons_succ]
  refine wpAnyH_take (i := 3) (v := ?_) rfl (by kernel_rfl) (by kernel_rfl) (by kernel_rfl) (fun _ _ _ h => h) (Or.inl ⟨by rfl, ?_⟩) (by assumption) ?_
  rotate_left
  · intro w hSw; (try dsimp only at hSw); go_simp; first | done | with_reducible rfl
  try simp only [Act.put, List.getElem_toArray, List.getElem_cons_succ, List.getElem_cons_zero, List.setIfInBounds_toArray, List.set_cons_zero, List.set_cons_succ]
  refine wpAnyH_take (i := 4) (v := ?_) rfl (by kernel_rfl) (by kernel_rfl) (by kernel_rfl) (fun _ _ _ h => h) (Or.inl ⟨by rfl, ?_⟩) (by assumption) ?_
  rotate_left
  · intro w hSw; (try dsimp only at hSw); go_simp; first | done | with_reducible rfl
  try simp only [Act.put, List.getElem_toArray, List.getElem_cons_succ, List.getElem_cons_zero, List.setIfInBounds_toArray, List.set_cons_zero, List.set_cons_succ]
  refine wpAnyH_take (i := 5) (v := ?_) rfl (by kernel_rfl) (by kernel_rfl) (by kernel_rfl) (fun _ _ _ h => h) (Or.inl ⟨by rfl, ?_⟩) (by assumption) ?_
  rotate_left
  · intro w hSw; (try dsimp only at hSw); go_simp; first | done | with_reducible rfl
  try simp only [Act.put, List.getElem_toArray, List.getElem_cons_succ, List.getElem_cons_zero, List.setIfInBounds_toArray, List.set_cons_zero, List.set_cons_succ]
  refine wpAnyH_take (i := 6) (v := ?_) rfl (by kernel_rfl) (by kernel_rfl) (by kernel_rfl) (fun _ _ _ h => h) (Or.inl ⟨by rfl, ?_⟩) (by assumption) ?_
  rotate_left
  · intro w hSw; (try dsimp only at hSw); go_simp; first | done | with_reducible rfl
  try simp only [Act.put, List.getElem_toArray, List.getElem_cons_succ, List.getElem_cons_zero, List.setIfInBounds_toArray, List.set_cons_zero, List.set_cons_succ]
  refine wpAnyH_take (i := 7) (v := ?_) rfl (by kernel_rfl) (by kernel_rfl) (by kernel_rfl) (fun _ _ _ h => h) (Or.inl ⟨by rfl, ?_⟩) (by assumption) ?_
  rotate_left
  · intro w hSw; (try dsimp only at hSw); go_simp; first | done | with_reducible rfl
  try simp only [Act.put, List.getElem_toArray, List.getElem_cons_succ, List.getElem_cons_zero, List.setIfInBounds_toArray, List.set_cons_zero, List.set_cons_succ]
  refine wpAnyH_done (by kernel_rfl) ?_ _
  clear hHeld
  obtain ⟨W9, hW9, B9⟩ : ∃ W9, W9 = _ ∧ RB w r rd cap ext _ _ W9 := ⟨_, rfl, B⟩
  rw [← hW9]
  clear B hW9
  have B := B9
  clear B9
  replace kX := B.x.cell
  replace fX := B.x.free
  replace kR := B.z.cell
  replace fR := B.z.free
  replace kH := B.H.cellsC (c := s.c) rfl
  go_wp2_with fail
  replace B := B.set 3 (.int .i64 0)
  replace B := B.set 0 (.int .i64 10)
  refine bodyPost_ret (v := .agg #[.int .i64 (10), .int .i64 (j), .int .i64 (c + 1), .int .i64 (0), .int .u64 (a), .int .u64 (p), .bool false, .int .i64 (tail), .int .i64 (cyc)]) (by simp [results, Try.results143, go_sem, kX, kR]) rfl ⟨rfl, ?_⟩
  exact B.done _ _ _ _ _ _ _ _ _


set_option maxRecDepth 100000 in
set_option maxHeartbeats 4000000 in
theorem rpa3 {w : World} {r rd cap : Nat} {ext : List Value} {s : HS} (H : RAt w r rd cap ext s) (j c m a p tail cyc : Int) (found : Bool)  :
    Calls Try.prog 79 #[.pointer (some ⟨r, 0, none⟩), .agg #[.int .i64 (3), .int .i64 (j), .int .i64 (c), .int .i64 (m), .int .u64 (a), .int .u64 (p), .bool (found), .int .i64 (tail), .int .i64 (cyc)]] w fun e w' => e = .returned (.tuple #[.agg #[.int .i64 (4), .int .i64 (j), .int .i64 (0), .int .i64 (m), .int .u64 (a), .int .u64 (p), .bool (false), .int .i64 (tail), .int .i64 (cyc)], .bool true]) ∧ (RAt w' r rd cap ext (s.doIt (aStore 2 0)) ∧ Fr [r, rd] w w') := by
  have B := RB.start H [.int .i64 (3), .int .i64 (j), .int .i64 (c), .int .i64 (m), .int .u64 (a), .int .u64 (p), .bool (found), .int .i64 (tail), .int .i64 (cyc)]
  have n0 := B.l1
  have n1 := B.l3
  have hrr := H.right
  clear H
  simp only [zCol] at B
  replace kX := B.x.cell
  replace fX := B.x.free
  replace kR := B.z.cell
  replace fR := B.z.free
  replace kH := B.H.cellsC (c := s.c) rfl
  go_enter Try.func79, Try.ntmps79
  go_wp2_with (first | (go_at_call 134; refine (rhstore_any B.H _ _ (by omega)).mono ?_; rintro e w2 ⟨rfl, HH, hF2⟩; (replace B := B.hand HH hF2); clear HH; (replace kX := B.x.cell); (replace fX := B.x.free); (replace kR := B.z.cell); (replace fR := B.z.free); (replace kH := B.H.cellsC (c := s.c) rfl)))
  replace B := B.set 2 (.int .i64 0)
  replace B := B.set 6 (.bool false)
  replace B := B.set 0 (.int .i64 4)
  refine bodyPost_ret (v := .tuple #[.agg #[.int .i64 (4), .int .i64 (j), .int .i64 (0), .int .i64 (m), .int .u64 (a), .int .u64 (p), .bool (false), .int .i64 (tail), .int .i64 (cyc)], .bool true]) (by simp [results, Try.results79, go_sem, kX, kR]) rfl ⟨rfl, ?_⟩
  exact B.done _ _ _ _ _ _ _ _ _


set_option maxRecDepth 100000 in
set_option maxHeartbeats 4000000 in
theorem rpa4g {w : World} {r rd cap : Nat} {ext : List Value} {s : HS} (H : RAt w r rd cap ext s) (j c m a p tail cyc : Int) (found : Bool) (u : Int) (hu : wAt s.ws (s.c.cellP 2 c) = u) (h1 : (u != 1) = false) :
    Calls Try.prog 79 #[.pointer (some ⟨r, 0, none⟩), .agg #[.int .i64 (4), .int .i64 (j), .int .i64 (c), .int .i64 (m), .int .u64 (a), .int .u64 (p), .bool (found), .int .i64 (tail), .int .i64 (cyc)]] w fun e w' => e = .returned (.tuple #[.agg #[.int .i64 (5), .int .i64 (j), .int .i64 (c), .int .i64 (m), .int .u64 (a), .int .u64 (p), .bool (found), .int .i64 (tail), .int .i64 (cyc)], .bool true]) ∧ (RAt w' r rd cap ext (s.doIt (aLoad (s.c.cellP 2 c))) ∧ Fr [r, rd] w w') := by
  have B := RB.start H [.int .i64 (4), .int .i64 (j), .int .i64 (c), .int .i64 (m), .int .u64 (a), .int .u64 (p), .bool (found), .int .i64 (tail), .int .i64 (cyc)]
  have n0 := B.l1
  have n1 := B.l3
  have hrr := H.right
  clear H
  simp only [zCol] at B
  replace kX := B.x.cell
  replace fX := B.x.free
  replace kR := B.z.cell
  replace fR := B.z.free
  replace kH := B.H.cellsC (c := s.c) rfl
  go_enter Try.func79, Try.ntmps79
  go_wp2_with (first | (go_at_call 142; refine (rat16_any B.H 6 2 _ rfl (by omega) (by omega)).mono ?_; rintro e w2 ⟨rfl, hF2⟩; (replace B := B.kept0 hF2); (replace kX := B.x.cell); (replace fX := B.x.free); (replace kR := B.z.cell); (replace fR := B.z.free); (replace kH := B.H.cellsC (c := s.c) rfl)) | (go_at_call 132; refine (load_ru hu B.H).mono ?_; rintro e w2 ⟨rfl, HH, hF2⟩; (replace B := B.hand HH hF2); clear HH; (replace kX := B.x.cell); (replace fX := B.x.free); (replace kR := B.z.cell); (replace fR := B.z.free); (replace kH := B.H.cellsC (c := s.c) rfl)))
  replace B := B.set 0 (.int .i64 5)
  refine bodyPost_ret (v := .tuple #[.agg #[.int .i64 (5), .int .i64 (j), .int .i64 (c), .int .i64 (m), .int .u64 (a), .int .u64 (p), .bool (found), .int .i64 (tail), .int .i64 (cyc)], .bool true]) (by simp [results, Try.results79, go_sem, kX, kR]) rfl ⟨rfl, ?_⟩
  exact B.done _ _ _ _ _ _ _ _ _


set_option maxRecDepth 100000 in
set_option maxHeartbeats 4000000 in
theorem rpa4m {w : World} {r rd cap : Nat} {ext : List Value} {s : HS} (H : RAt w r rd cap ext s) (j c m a p tail cyc : Int) (found : Bool) (u : Int) (hu : wAt s.ws (s.c.cellP 2 c) = u) (h1 : (u != 1) = true) (hc : -1000000 ≤ c ∧ c ≤ 1000000) (hl : c + 1 < s.c.cells) :
    Calls Try.prog 79 #[.pointer (some ⟨r, 0, none⟩), .agg #[.int .i64 (4), .int .i64 (j), .int .i64 (c), .int .i64 (m), .int .u64 (a), .int .u64 (p), .bool (found), .int .i64 (tail), .int .i64 (cyc)]] w fun e w' => e = .returned (.tuple #[.agg #[.int .i64 (4), .int .i64 (j), .int .i64 (c + 1), .int .i64 (m), .int .u64 (a), .int .u64 (p), .bool (found), .int .i64 (tail), .int .i64 (cyc)], .bool true]) ∧ (RAt w' r rd cap ext (s.doIt (aLoad (s.c.cellP 2 c))) ∧ Fr [r, rd] w w') := by
  have B := RB.start H [.int .i64 (4), .int .i64 (j), .int .i64 (c), .int .i64 (m), .int .u64 (a), .int .u64 (p), .bool (found), .int .i64 (tail), .int .i64 (cyc)]
  have n0 := B.l1
  have n1 := B.l3
  have hrr := H.right
  (try replace hl := hid hl)
  (try have hlH := hl)
  (try replace hf := hid hf)
  (try have hfH := hf)

  clear H
  simp only [zCol] at B
  replace kX := B.x.cell
  replace fX := B.x.free
  replace kR := B.z.cell
  replace fR := B.z.free
  replace kH := B.H.cellsC (c := s.c) rfl
  go_enter Try.func79, Try.ntmps79
  go_wp2_with (first | (go_at_call 142; refine (rat16_any B.H 6 2 _ rfl (by omega) (by omega)).mono ?_; rintro e w2 ⟨rfl, hF2⟩; (replace B := B.kept0 hF2); (replace kX := B.x.cell); (replace fX := B.x.free); (replace kR := B.z.cell); (replace fR := B.z.free); (replace kH := B.H.cellsC (c := s.c) rfl)) | (go_at_call 132; refine (load_ru hu B.H).mono ?_; rintro e w2 ⟨rfl, HH, hF2⟩; (replace B := B.hand HH hF2); clear HH; (replace kX := B.x.cell); (replace fX := B.x.free); (replace kR := B.z.cell); (replace fR := B.z.free); (replace kH := B.H.cellsC (c := s.c) rfl)) | (go_at_call 143; refine (rpassnext_more B.H _ _ _ _ _ _ _ _ _ hc hlH.out).mono ?_; rintro e w2 ⟨rfl, HH, hF2⟩; (replace B := B.hand HH hF2); clear HH; (replace kX := B.x.cell); (replace fX := B.x.free); (replace kR := B.z.cell); (replace fR := B.z.free); (replace kH := B.H.cellsC (c := s.c) rfl)))
  refine bodyPost_ret (v := .tuple #[.agg #[.int .i64 (4), .int .i64 (j), .int .i64 (c + 1), .int .i64 (m), .int .u64 (a), .int .u64 (p), .bool (found), .int .i64 (tail), .int .i64 (cyc)], .bool true]) (by simp [results, Try.results79, go_sem, kX, kR]) rfl ⟨rfl, ?_⟩
  exact B.done _ _ _ _ _ _ _ _ _


set_option maxRecDepth 100000 in
set_option maxHeartbeats 4000000 in
theorem rpa4f {w : World} {r rd cap : Nat} {ext : List Value} {s : HS} (H : RAt w r rd cap ext s) (j c m a p tail cyc : Int) (found : Bool) (u : Int) (hu : wAt s.ws (s.c.cellP 2 c) = u) (h1 : (u != 1) = true) (hc : -1000000 ≤ c ∧ c ≤ 1000000) (hl : s.c.cells ≤ c + 1) (hf : found = true) :
    Calls Try.prog 79 #[.pointer (some ⟨r, 0, none⟩), .agg #[.int .i64 (4), .int .i64 (j), .int .i64 (c), .int .i64 (m), .int .u64 (a), .int .u64 (p), .bool (found), .int .i64 (tail), .int .i64 (cyc)]] w fun e w' => e = .returned (.tuple #[.agg #[.int .i64 (3), .int .i64 (j), .int .i64 (c + 1), .int .i64 (m), .int .u64 (a), .int .u64 (p), .bool (found), .int .i64 (tail), .int .i64 (cyc)], .bool true]) ∧ (RAt w' r rd cap ext (s.doIt (aLoad (s.c.cellP 2 c))) ∧ Fr [r, rd] w w') := by
  have B := RB.start H [.int .i64 (4), .int .i64 (j), .int .i64 (c), .int .i64 (m), .int .u64 (a), .int .u64 (p), .bool (found), .int .i64 (tail), .int .i64 (cyc)]
  have n0 := B.l1
  have n1 := B.l3
  have hrr := H.right
  (try replace hl := hid hl)
  (try have hlH := hl)
  (try replace hf := hid hf)
  (try have hfH := hf)

  clear H
  simp only [zCol] at B
  replace kX := B.x.cell
  replace fX := B.x.free
  replace kR := B.z.cell
  replace fR := B.z.free
  replace kH := B.H.cellsC (c := s.c) rfl
  go_enter Try.func79, Try.ntmps79
  go_wp2_with (first | (go_at_call 142; refine (rat16_any B.H 6 2 _ rfl (by omega) (by omega)).mono ?_; rintro e w2 ⟨rfl, hF2⟩; (replace B := B.kept0 hF2); (replace kX := B.x.cell); (replace fX := B.x.free); (replace kR := B.z.cell); (replace fR := B.z.free); (replace kH := B.H.cellsC (c := s.c) rfl)) | (go_at_call 132; refine (load_ru hu B.H).mono ?_; rintro e w2 ⟨rfl, HH, hF2⟩; (replace B := B.hand HH hF2); clear HH; (replace kX := B.x.cell); (replace fX := B.x.free); (replace kR := B.z.cell); (replace fR := B.z.free); (replace kH := B.H.cellsC (c := s.c) rfl)) | (go_at_call 143; refine (rpassnext_found B.H _ _ _ _ _ _ _ _ _ hc hlH.out hfH.out).mono ?_; rintro e w2 ⟨rfl, HH, hF2⟩; (replace B := B.hand HH hF2); clear HH; (replace kX := B.x.cell); (replace fX := B.x.free); (replace kR := B.z.cell); (replace fR := B.z.free); (replace kH := B.H.cellsC (c := s.c) rfl)))
  refine bodyPost_ret (v := .tuple #[.agg #[.int .i64 (3), .int .i64 (j), .int .i64 (c + 1), .int .i64 (m), .int .u64 (a), .int .u64 (p), .bool (found), .int .i64 (tail), .int .i64 (cyc)], .bool true]) (by simp [results, Try.results79, go_sem, kX, kR]) rfl ⟨rfl, ?_⟩
  exact B.done _ _ _ _ _ _ _ _ _


set_option maxRecDepth 100000 in
set_option maxHeartbeats 4000000 in
theorem rpa4o {w : World} {r rd cap : Nat} {ext : List Value} {s : HS} (H : RAt w r rd cap ext s) (j c m a p tail cyc : Int) (found : Bool) (u : Int) (hu : wAt s.ws (s.c.cellP 2 c) = u) (h1 : (u != 1) = true) (hc : -1000000 ≤ c ∧ c ≤ 1000000) (hl : s.c.cells ≤ c + 1) (hf : found = false) :
    Calls Try.prog 79 #[.pointer (some ⟨r, 0, none⟩), .agg #[.int .i64 (4), .int .i64 (j), .int .i64 (c), .int .i64 (m), .int .u64 (a), .int .u64 (p), .bool (found), .int .i64 (tail), .int .i64 (cyc)]] w fun e w' => e = .returned (.tuple #[.agg #[.int .i64 (10), .int .i64 (j), .int .i64 (c + 1), .int .i64 (0), .int .u64 (a), .int .u64 (p), .bool (found), .int .i64 (tail), .int .i64 (cyc)], .bool true]) ∧ (RAt w' r rd cap ext (s.doIt (aLoad (s.c.cellP 2 c))) ∧ Fr [r, rd] w w') := by
  have B := RB.start H [.int .i64 (4), .int .i64 (j), .int .i64 (c), .int .i64 (m), .int .u64 (a), .int .u64 (p), .bool (found), .int .i64 (tail), .int .i64 (cyc)]
  have n0 := B.l1
  have n1 := B.l3
  have hrr := H.right
  (try replace hl := hid hl)
  (try have hlH := hl)
  (try replace hf := hid hf)
  (try have hfH := hf)

  clear H
  simp only [zCol] at B
  replace kX := B.x.cell
  replace fX := B.x.free
  replace kR := B.z.cell
  replace fR := B.z.free
  replace kH := B.H.cellsC (c := s.c) rfl
  go_enter Try.func79, Try.ntmps79
  go_wp2_with (first | (go_at_call 142; refine (rat16_any B.H 6 2 _ rfl (by omega) (by omega)).mono ?_; rintro e w2 ⟨rfl, hF2⟩; (replace B := B.kept0 hF2); (replace kX := B.x.cell); (replace fX := B.x.free); (replace kR := B.z.cell); (replace fR := B.z.free); (replace kH := B.H.cellsC (c := s.c) rfl)) | (go_at_call 132; refine (load_ru hu B.H).mono ?_; rintro e w2 ⟨rfl, HH, hF2⟩; (replace B := B.hand HH hF2); clear HH; (replace kX := B.x.cell); (replace fX := B.x.free); (replace kR := B.z.cell); (replace fR := B.z.free); (replace kH := B.H.cellsC (c := s.c) rfl)) | (go_at_call 143; refine (rpassnext_over B.H _ _ _ _ _ _ _ _ _ hc hlH.out hfH.out).mono ?_; rintro e w2 ⟨rfl, HH, hF2⟩; (replace B := B.hand HH hF2); clear HH; (replace kX := B.x.cell); (replace fX := B.x.free); (replace kR := B.z.cell); (replace fR := B.z.free); (replace kH := B.H.cellsC (c := s.c) rfl)))
  refine bodyPost_ret (v := .tuple #[.agg #[.int .i64 (10), .int .i64 (j), .int .i64 (c + 1), .int .i64 (0), .int .u64 (a), .int .u64 (p), .bool (found), .int .i64 (tail), .int .i64 (cyc)], .bool true]) (by simp [results, Try.results79, go_sem, kX, kR]) rfl ⟨rfl, ?_⟩
  exact B.done _ _ _ _ _ _ _ _ _


set_option maxRecDepth 100000 in
set_option maxHeartbeats 4000000 in
theorem rpa5y {w : World} {r rd cap : Nat} {ext : List Value} {s : HS} (H : RAt w r rd cap ext s) (j c m a p tail cyc : Int) (found : Bool) (u : Int) (hu : wAt s.ws (s.c.cellP 0 c) = u) (hu0 : 0 ≤ u) (hu1 : u < 18446744073709551616) (hv : isCell u = true) :
    Calls Try.prog 79 #[.pointer (some ⟨r, 0, none⟩), .agg #[.int .i64 (5), .int .i64 (j), .int .i64 (c), .int .i64 (m), .int .u64 (a), .int .u64 (p), .bool (found), .int .i64 (tail), .int .i64 (cyc)]] w fun e w' => e = .returned (.tuple #[.agg #[.int .i64 (6), .int .i64 (j), .int .i64 (c), .int .i64 (m), .int .u64 (u), .int .u64 (p), .bool (found), .int .i64 (tail), .int .i64 (cyc)], .bool true]) ∧ (RAt w' r rd cap ext (s.doIt (aLoad (s.c.cellP 0 c))) ∧ Fr [r, rd] w w') := by
  have B := RB.start H [.int .i64 (5), .int .i64 (j), .int .i64 (c), .int .i64 (m), .int .u64 (a), .int .u64 (p), .bool (found), .int .i64 (tail), .int .i64 (cyc)]
  have n0 := B.l1
  have n1 := B.l3
  have hrr := H.right
  have HI := hid (fun W => rIsCell_any u hu0 hu1 W)
  obtain ⟨n, hn⟩ : ∃ n, n = cellN u := ⟨_, rfl⟩
  rw [← hn] at HI
  have gn : 0 ≤ n := by rw [hn]; unfold cellN; simp only [isCell, Bool.and_eq_true, Bool.and_eq_false_iff, decide_eq_true_eq, decide_eq_false_iff_not] at hv; split <;> omega
  clear hn hv

  clear H
  simp only [zCol] at B
  replace kX := B.x.cell
  replace fX := B.x.free
  replace kR := B.z.cell
  replace fR := B.z.free
  replace kH := B.H.cellsC (c := s.c) rfl
  go_enter Try.func79, Try.ntmps79
  go_upto_region 16 with (first | (go_at_call 142; refine (rat16_any B.H 4 0 _ rfl (by omega) (by omega)).mono ?_; rintro e w2 ⟨rfl, hF2⟩; (replace B := B.kept0 hF2); (replace kX := B.x.cell); (replace fX := B.x.free); (replace kR := B.z.cell); (replace fR := B.z.free); (replace kH := B.H.cellsC (c := s.c) rfl)) | (go_at_call 132; refine (load_ru hu B.H).mono ?_; rintro e w2 ⟨rfl, HH, hF2⟩; (replace B := B.hand HH hF2); clear HH; (replace kX := B.x.cell); (replace fX := B.x.free); (replace kR := B.z.cell); (replace fR := B.z.free); (replace kH := B.H.cellsC (c := s.c) rfl)))
  replace B := B.set 4 (.int .u64 u)
  replace B := B.set 0 (.int .i64 7)
  simp only [List.set_cons_zero, List.set_cons_succ] at B
  obtain ⟨W9, hW9, B9⟩ : ∃ W9, W9 = _ ∧ RB w r rd cap ext _ _ W9 := ⟨_, rfl, B⟩
  rw [← hW9]
  clear B hW9
  have B := B9
  clear B9
  replace kX := B.x.cell
  replace fX := B.x.free
  replace kR := B.z.cell
  replace fR := B.z.free
  replace kH := B.H.cellsC (c := s.c) rfl
  go_wp2_with (first | (go_at_call 57; refine (HI.out _).mono ?_; rintro e w2 ⟨rfl, rfl⟩))
  replace B := B.set 0 (.int .i64 6)
  refine bodyPost_ret (v := .tuple #[.agg #[.int .i64 (6), .int .i64 (j), .int .i64 (c), .int .i64 (m), .int .u64 (u), .int .u64 (p), .bool (found), .int .i64 (tail), .int .i64 (cyc)], .bool true]) (by simp [results, Try.results79, go_sem, kX, kR]) rfl ⟨rfl, ?_⟩
  exact B.done _ _ _ _ _ _ _ _ _


set_option maxRecDepth 100000 in
set_option maxHeartbeats 4000000 in
theorem rpa5n {w : World} {r rd cap : Nat} {ext : List Value} {s : HS} (H : RAt w r rd cap ext s) (j c m a p tail cyc : Int) (found : Bool) (u : Int) (hu : wAt s.ws (s.c.cellP 0 c) = u) (hu0 : 0 ≤ u) (hu1 : u < 18446744073709551616) (hv : isCell u = false) :
    Calls Try.prog 79 #[.pointer (some ⟨r, 0, none⟩), .agg #[.int .i64 (5), .int .i64 (j), .int .i64 (c), .int .i64 (m), .int .u64 (a), .int .u64 (p), .bool (found), .int .i64 (tail), .int .i64 (cyc)]] w fun e w' => e = .returned (.tuple #[.agg #[.int .i64 (7), .int .i64 (j), .int .i64 (c), .int .i64 (m), .int .u64 (u), .int .u64 (p), .bool (found), .int .i64 (tail), .int .i64 (cyc)], .bool true]) ∧ (RAt w' r rd cap ext (s.doIt (aLoad (s.c.cellP 0 c))) ∧ Fr [r, rd] w w') := by
  have B := RB.start H [.int .i64 (5), .int .i64 (j), .int .i64 (c), .int .i64 (m), .int .u64 (a), .int .u64 (p), .bool (found), .int .i64 (tail), .int .i64 (cyc)]
  have n0 := B.l1
  have n1 := B.l3
  have hrr := H.right
  have HI := hid (fun W => rIsCell_any u hu0 hu1 W)
  obtain ⟨n, hn⟩ : ∃ n, n = cellN u := ⟨_, rfl⟩
  rw [← hn] at HI
  have gn : n < 0 := by rw [hn]; unfold cellN; simp only [isCell, Bool.and_eq_true, Bool.and_eq_false_iff, decide_eq_true_eq, decide_eq_false_iff_not] at hv; split <;> omega
  clear hn hv

  clear H
  simp only [zCol] at B
  replace kX := B.x.cell
  replace fX := B.x.free
  replace kR := B.z.cell
  replace fR := B.z.free
  replace kH := B.H.cellsC (c := s.c) rfl
  go_enter Try.func79, Try.ntmps79
  go_upto_region 16 with (first | (go_at_call 142; refine (rat16_any B.H 4 0 _ rfl (by omega) (by omega)).mono ?_; rintro e w2 ⟨rfl, hF2⟩; (replace B := B.kept0 hF2); (replace kX := B.x.cell); (replace fX := B.x.free); (replace kR := B.z.cell); (replace fR := B.z.free); (replace kH := B.H.cellsC (c := s.c) rfl)) | (go_at_call 132; refine (load_ru hu B.H).mono ?_; rintro e w2 ⟨rfl, HH, hF2⟩; (replace B := B.hand HH hF2); clear HH; (replace kX := B.x.cell); (replace fX := B.x.free); (replace kR := B.z.cell); (replace fR := B.z.free); (replace kH := B.H.cellsC (c := s.c) rfl)))
  replace B := B.set 4 (.int .u64 u)
  replace B := B.set 0 (.int .i64 7)
  simp only [List.set_cons_zero, List.set_cons_succ] at B
  obtain ⟨W9, hW9, B9⟩ : ∃ W9, W9 = _ ∧ RB w r rd cap ext _ _ W9 := ⟨_, rfl, B⟩
  rw [← hW9]
  clear B hW9
  have B := B9
  clear B9
  replace kX := B.x.cell
  replace fX := B.x.free
  replace kR := B.z.cell
  replace fR := B.z.free
  replace kH := B.H.cellsC (c := s.c) rfl
  go_wp2_with (first | (go_at_call 57; refine (HI.out _).mono ?_; rintro e w2 ⟨rfl, rfl⟩))
  refine bodyPost_ret (v := .tuple #[.agg #[.int .i64 (7), .int .i64 (j), .int .i64 (c), .int .i64 (m), .int .u64 (u), .int .u64 (p), .bool (found), .int .i64 (tail), .int .i64 (cyc)], .bool true]) (by simp [results, Try.results79, go_sem, kX, kR]) rfl ⟨rfl, ?_⟩
  exact B.done _ _ _ _ _ _ _ _ _


set_option maxRecDepth 100000 in
set_option maxHeartbeats 4000000 in
theorem rpa7y {w : World} {r rd cap : Nat} {ext : List Value} {s : HS} (H : RAt w r rd cap ext s) (j c m a p tail cyc : Int) (found : Bool) (u : Int) (hu : wAt s.ws (s.c.cellP 1 c) = u) (hu0 : 0 ≤ u) (hu1 : u < 18446744073709551616) (hv : isCell u = true) :
    Calls Try.prog 79 #[.pointer (some ⟨r, 0, none⟩), .agg #[.int .i64 (7), .int .i64 (j), .int .i64 (c), .int .i64 (m), .int .u64 (a), .int .u64 (p), .bool (found), .int .i64 (tail), .int .i64 (cyc)]] w fun e w' => e = .returned (.tuple #[.agg #[.int .i64 (8), .int .i64 (j), .int .i64 (c), .int .i64 (m), .int .u64 (u), .int .u64 (p), .bool (found), .int .i64 (tail), .int .i64 (cyc)], .bool true]) ∧ (RAt w' r rd cap ext (s.doIt (aLoad (s.c.cellP 1 c))) ∧ Fr [r, rd] w w') := by
  have B := RB.start H [.int .i64 (7), .int .i64 (j), .int .i64 (c), .int .i64 (m), .int .u64 (a), .int .u64 (p), .bool (found), .int .i64 (tail), .int .i64 (cyc)]
  have n0 := B.l1
  have n1 := B.l3
  have hrr := H.right
  have HI := hid (fun W => rIsCell_any u hu0 hu1 W)
  obtain ⟨n, hn⟩ : ∃ n, n = cellN u := ⟨_, rfl⟩
  rw [← hn] at HI
  have gn : 0 ≤ n := by rw [hn]; unfold cellN; simp only [isCell, Bool.and_eq_true, Bool.and_eq_false_iff, decide_eq_true_eq, decide_eq_false_iff_not] at hv; split <;> omega
  clear hn hv

  clear H
  simp only [zCol] at B
  replace kX := B.x.cell
  replace fX := B.x.free
  replace kR := B.z.cell
  replace fR := B.z.free
  replace kH := B.H.cellsC (c := s.c) rfl
  go_enter Try.func79, Try.ntmps79
  go_upto_region 24 with (first | (go_at_call 142; refine (rat16_any B.H 5 1 _ rfl (by omega) (by omega)).mono ?_; rintro e w2 ⟨rfl, hF2⟩; (replace B := B.kept0 hF2); (replace kX := B.x.cell); (replace fX := B.x.free); (replace kR := B.z.cell); (replace fR := B.z.free); (replace kH := B.H.cellsC (c := s.c) rfl)) | (go_at_call 132; refine (load_ru hu B.H).mono ?_; rintro e w2 ⟨rfl, HH, hF2⟩; (replace B := B.hand HH hF2); clear HH; (replace kX := B.x.cell); (replace fX := B.x.free); (replace kR := B.z.cell); (replace fR := B.z.free); (replace kH := B.H.cellsC (c := s.c) rfl)))
  replace B := B.set 4 (.int .u64 u)
  replace B := B.set 0 (.int .i64 9)
  simp only [List.set_cons_zero, List.set_cons_succ] at B
  obtain ⟨W9, hW9, B9⟩ : ∃ W9, W9 = _ ∧ RB w r rd cap ext _ _ W9 := ⟨_, rfl, B⟩
  rw [← hW9]
  clear B hW9
  have B := B9
  clear B9
  replace kX := B.x.cell
  replace fX := B.x.free
  replace kR := B.z.cell
  replace fR := B.z.free
  replace kH := B.H.cellsC (c := s.c) rfl
  go_wp2_with (first | (go_at_call 57; refine (HI.out _).mono ?_; rintro e w2 ⟨rfl, rfl⟩))
  replace B := B.set 0 (.int .i64 8)
  refine bodyPost_ret (v := .tuple #[.agg #[.int .i64 (8), .int .i64 (j), .int .i64 (c), .int .i64 (m), .int .u64 (u), .int .u64 (p), .bool (found), .int .i64 (tail), .int .i64 (cyc)], .bool true]) (by simp [results, Try.results79, go_sem, kX, kR]) rfl ⟨rfl, ?_⟩
  exact B.done _ _ _ _ _ _ _ _ _


set_option maxRecDepth 100000 in
set_option maxHeartbeats 4000000 in
theorem rpa7n {w : World} {r rd cap : Nat} {ext : List Value} {s : HS} (H : RAt w r rd cap ext s) (j c m a p tail cyc : Int) (found : Bool) (u : Int) (hu : wAt s.ws (s.c.cellP 1 c) = u) (hu0 : 0 ≤ u) (hu1 : u < 18446744073709551616) (hv : isCell u = false) :
    Calls Try.prog 79 #[.pointer (some ⟨r, 0, none⟩), .agg #[.int .i64 (7), .int .i64 (j), .int .i64 (c), .int .i64 (m), .int .u64 (a), .int .u64 (p), .bool (found), .int .i64 (tail), .int .i64 (cyc)]] w fun e w' => e = .returned (.tuple #[.agg #[.int .i64 (9), .int .i64 (j), .int .i64 (c), .int .i64 (m), .int .u64 (u), .int .u64 (p), .bool (found), .int .i64 (tail), .int .i64 (cyc)], .bool true]) ∧ (RAt w' r rd cap ext (s.doIt (aLoad (s.c.cellP 1 c))) ∧ Fr [r, rd] w w') := by
  have B := RB.start H [.int .i64 (7), .int .i64 (j), .int .i64 (c), .int .i64 (m), .int .u64 (a), .int .u64 (p), .bool (found), .int .i64 (tail), .int .i64 (cyc)]
  have n0 := B.l1
  have n1 := B.l3
  have hrr := H.right
  have HI := hid (fun W => rIsCell_any u hu0 hu1 W)
  obtain ⟨n, hn⟩ : ∃ n, n = cellN u := ⟨_, rfl⟩
  rw [← hn] at HI
  have gn : n < 0 := by rw [hn]; unfold cellN; simp only [isCell, Bool.and_eq_true, Bool.and_eq_false_iff, decide_eq_true_eq, decide_eq_false_iff_not] at hv; split <;> omega
  clear hn hv

  clear H
  simp only [zCol] at B
  replace kX := B.x.cell
  replace fX := B.x.free
  replace kR := B.z.cell
  replace fR := B.z.free
  replace kH := B.H.cellsC (c := s.c) rfl
  go_enter Try.func79, Try.ntmps79
  go_upto_region 24 with (first | (go_at_call 142; refine (rat16_any B.H 5 1 _ rfl (by omega) (by omega)).mono ?_; rintro e w2 ⟨rfl, hF2⟩; (replace B := B.kept0 hF2); (replace kX := B.x.cell); (replace fX := B.x.free); (replace kR := B.z.cell); (replace fR := B.z.free); (replace kH := B.H.cellsC (c := s.c) rfl)) | (go_at_call 132; refine (load_ru hu B.H).mono ?_; rintro e w2 ⟨rfl, HH, hF2⟩; (replace B := B.hand HH hF2); clear HH; (replace kX := B.x.cell); (replace fX := B.x.free); (replace kR := B.z.cell); (replace fR := B.z.free); (replace kH := B.H.cellsC (c := s.c) rfl)))
  replace B := B.set 4 (.int .u64 u)
  replace B := B.set 0 (.int .i64 9)
  simp only [List.set_cons_zero, List.set_cons_succ] at B
  obtain ⟨W9, hW9, B9⟩ : ∃ W9, W9 = _ ∧ RB w r rd cap ext _ _ W9 := ⟨_, rfl, B⟩
  rw [← hW9]
  clear B hW9
  have B := B9
  clear B9
  replace kX := B.x.cell
  replace fX := B.x.free
  replace kR := B.z.cell
  replace fR := B.z.free
  replace kH := B.H.cellsC (c := s.c) rfl
  go_wp2_with (first | (go_at_call 57; refine (HI.out _).mono ?_; rintro e w2 ⟨rfl, rfl⟩))
  refine bodyPost_ret (v := .tuple #[.agg #[.int .i64 (9), .int .i64 (j), .int .i64 (c), .int .i64 (m), .int .u64 (u), .int .u64 (p), .bool (found), .int .i64 (tail), .int .i64 (cyc)], .bool true]) (by simp [results, Try.results79, go_sem, kX, kR]) rfl ⟨rfl, ?_⟩
  exact B.done _ _ _ _ _ _ _ _ _


set_option maxRecDepth 100000 in
set_option maxHeartbeats 4000000 in
theorem rpa6 {w : World} {r rd cap : Nat} {ext : List Value} {s : HS} (H : RAt w r rd cap ext s) (j c m a p tail cyc : Int) (found : Bool) (ha0 : 0 ≤ a) (ha1 : a < 18446744073709551616) :
    Calls Try.prog 79 #[.pointer (some ⟨r, 0, none⟩), .agg #[.int .i64 (6), .int .i64 (j), .int .i64 (c), .int .i64 (m), .int .u64 (a), .int .u64 (p), .bool (found), .int .i64 (tail), .int .i64 (cyc)]] w fun e w' => e = .returned (.tuple #[.agg #[.int .i64 (7), .int .i64 (j), .int .i64 (c), .int .i64 (m), .int .u64 (a), .int .u64 (p), .bool (found), .int .i64 (tail), .int .i64 (cyc)], .bool true]) ∧ (RAt w' r rd cap ext (s.doIt (aCas (s.c.fieldP a 2) 0 1)) ∧ Fr [r, rd] w w') := by
  have B := RB.start H [.int .i64 (6), .int .i64 (j), .int .i64 (c), .int .i64 (m), .int .u64 (a), .int .u64 (p), .bool (found), .int .i64 (tail), .int .i64 (cyc)]
  have n0 := B.l1
  have n1 := B.l3
  have hrr := H.right
  clear H
  simp only [zCol] at B
  replace kX := B.x.cell
  replace fX := B.x.free
  replace kR := B.z.cell
  replace fR := B.z.free
  replace kH := B.H.cellsC (c := s.c) rfl
  go_enter Try.func79, Try.ntmps79
  go_wp2_with (first | (go_at_call 145; refine (RAt.field B.H _ _ ha0 ha1).mono ?_; rintro e w2 ⟨rfl, hF2⟩; (replace B := B.kept0 hF2); (replace kX := B.x.cell); (replace fX := B.x.free); (replace kR := B.z.cell); (replace fR := B.z.free); (replace kH := B.H.cellsC (c := s.c) rfl)) | (go_at_call 144; refine (rhcas_any B.H _ _ _ (by omega) (by omega)).mono ?_; rintro e w2 ⟨rfl, HH, hF2⟩; (replace B := B.hand HH hF2); clear HH; (replace kX := B.x.cell); (replace fX := B.x.free); (replace kR := B.z.cell); (replace fR := B.z.free); (replace kH := B.H.cellsC (c := s.c) rfl)))
  replace B := B.set 0 (.int .i64 7)
  refine bodyPost_ret (v := .tuple #[.agg #[.int .i64 (7), .int .i64 (j), .int .i64 (c), .int .i64 (m), .int .u64 (a), .int .u64 (p), .bool (found), .int .i64 (tail), .int .i64 (cyc)], .bool true]) (by simp [results, Try.results79, go_sem, kX, kR]) rfl ⟨rfl, ?_⟩
  exact B.done _ _ _ _ _ _ _ _ _


set_option maxRecDepth 100000 in
set_option maxHeartbeats 4000000 in
theorem rpa8 {w : World} {r rd cap : Nat} {ext : List Value} {s : HS} (H : RAt w r rd cap ext s) (j c m a p tail cyc : Int) (found : Bool) (ha0 : 0 ≤ a) (ha1 : a < 18446744073709551616) :
    Calls Try.prog 79 #[.pointer (some ⟨r, 0, none⟩), .agg #[.int .i64 (8), .int .i64 (j), .int .i64 (c), .int .i64 (m), .int .u64 (a), .int .u64 (p), .bool (found), .int .i64 (tail), .int .i64 (cyc)]] w fun e w' => e = .returned (.tuple #[.agg #[.int .i64 (9), .int .i64 (j), .int .i64 (c), .int .i64 (m), .int .u64 (a), .int .u64 (p), .bool (found), .int .i64 (tail), .int .i64 (cyc)], .bool true]) ∧ (RAt w' r rd cap ext (s.doIt (aCas (s.c.fieldP a 2) 0 1)) ∧ Fr [r, rd] w w') := by
  have B := RB.start H [.int .i64 (8), .int .i64 (j), .int .i64 (c), .int .i64 (m), .int .u64 (a), .int .u64 (p), .bool (found), .int .i64 (tail), .int .i64 (cyc)]
  have n0 := B.l1
  have n1 := B.l3
  have hrr := H.right
  clear H
  simp only [zCol] at B
  replace kX := B.x.cell
  replace fX := B.x.free
  replace kR := B.z.cell
  replace fR := B.z.free
  replace kH := B.H.cellsC (c := s.c) rfl
  go_enter Try.func79, Try.ntmps79
  go_wp2_with (first | (go_at_call 145; refine (RAt.field B.H _ _ ha0 ha1).mono ?_; rintro e w2 ⟨rfl, hF2⟩; (replace B := B.kept0 hF2); (replace kX := B.x.cell); (replace fX := B.x.free); (replace kR := B.z.cell); (replace fR := B.z.free); (replace kH := B.H.cellsC (c := s.c) rfl)) | (go_at_call 144; refine (rhcas_any B.H _ _ _ (by omega) (by omega)).mono ?_; rintro e w2 ⟨rfl, HH, hF2⟩; (replace B := B.hand HH hF2); clear HH; (replace kX := B.x.cell); (replace fX := B.x.free); (replace kR := B.z.cell); (replace fR := B.z.free); (replace kH := B.H.cellsC (c := s.c) rfl)))
  replace B := B.set 0 (.int .i64 9)
  refine bodyPost_ret (v := .tuple #[.agg #[.int .i64 (9), .int .i64 (j), .int .i64 (c), .int .i64 (m), .int .u64 (a), .int .u64 (p), .bool (found), .int .i64 (tail), .int .i64 (cyc)], .bool true]) (by simp [results, Try.results79, go_sem, kX, kR]) rfl ⟨rfl, ?_⟩
  exact B.done _ _ _ _ _ _ _ _ _


set_option maxRecDepth 100000 in
set_option maxHeartbeats 4000000 in
theorem rpa9m {w : World} {r rd cap : Nat} {ext : List Value} {s : HS} (H : RAt w r rd cap ext s) (j c m a p tail cyc : Int) (found : Bool) (hc : -1000000 ≤ c ∧ c ≤ 1000000) (hl : c + 1 < s.c.cells) :
    Calls Try.prog 79 #[.pointer (some ⟨r, 0, none⟩), .agg #[.int .i64 (9), .int .i64 (j), .int .i64 (c), .int .i64 (m), .int .u64 (a), .int .u64 (p), .bool (found), .int .i64 (tail), .int .i64 (cyc)]] w fun e w' => e = .returned (.tuple #[.agg #[.int .i64 (4), .int .i64 (j), .int .i64 (c + 1), .int .i64 (m), .int .u64 (0), .int .u64 (p), .bool (true), .int .i64 (tail), .int .i64 (cyc)], .bool true]) ∧ (RAt w' r rd cap ext (s.doIt (aStore (s.c.cellP 2 c) 2)) ∧ Fr [r, rd] w w') := by
  have B := RB.start H [.int .i64 (9), .int .i64 (j), .int .i64 (c), .int .i64 (m), .int .u64 (a), .int .u64 (p), .bool (found), .int .i64 (tail), .int .i64 (cyc)]
  have n0 := B.l1
  have n1 := B.l3
  have hrr := H.right
  (try replace hl := hid hl)
  (try have hlH := hl)
  (try replace hf := hid hf)
  (try have hfH := hf)

  clear H
  simp only [zCol] at B
  replace kX := B.x.cell
  replace fX := B.x.free
  replace kR := B.z.cell
  replace fR := B.z.free
  replace kH := B.H.cellsC (c := s.c) rfl
  go_enter Try.func79, Try.ntmps79
  go_wp2_with (first | (go_at_call 142; refine (rat16_any B.H 6 2 _ rfl (by omega) (by omega)).mono ?_; rintro e w2 ⟨rfl, hF2⟩; (replace B := B.kept0 hF2); (replace kX := B.x.cell); (replace fX := B.x.free); (replace kR := B.z.cell); (replace fR := B.z.free); (replace kH := B.H.cellsC (c := s.c) rfl)) | (go_at_call 134; refine (rhstore_any B.H _ _ (by omega)).mono ?_; rintro e w2 ⟨rfl, HH, hF2⟩; (replace B := B.hand HH hF2); clear HH; (replace kX := B.x.cell); (replace fX := B.x.free); (replace kR := B.z.cell); (replace fR := B.z.free); (replace kH := B.H.cellsC (c := s.c) rfl)) | (go_at_call 143; (replace B := B.set 4 (.int .u64 0)); (replace B := B.set 6 (.bool true)); simp only [List.set_cons_zero, List.set_cons_succ] at B; refine (rpassnext_more B.H _ _ _ _ _ _ _ _ _ hc hlH.out).mono ?_; rintro e w2 ⟨rfl, HH, hF2⟩; (replace B := B.hand HH hF2); clear HH; (replace kX := B.x.cell); (replace fX := B.x.free); (replace kR := B.z.cell); (replace fR := B.z.free); (replace kH := B.H.cellsC (c := s.c) rfl)))
  refine bodyPost_ret (v := .tuple #[.agg #[.int .i64 (4), .int .i64 (j), .int .i64 (c + 1), .int .i64 (m), .int .u64 (0), .int .u64 (p), .bool (true), .int .i64 (tail), .int .i64 (cyc)], .bool true]) (by simp [results, Try.results79, go_sem, kX, kR]) rfl ⟨rfl, ?_⟩
  exact B.done _ _ _ _ _ _ _ _ _


set_option maxRecDepth 100000 in
set_option maxHeartbeats 4000000 in
theorem rpa9f {w : World} {r rd cap : Nat} {ext : List Value} {s : HS} (H : RAt w r rd cap ext s) (j c m a p tail cyc : Int) (found : Bool) (hc : -1000000 ≤ c ∧ c ≤ 1000000) (hl : s.c.cells ≤ c + 1) :
    Calls Try.prog 79 #[.pointer (some ⟨r, 0, none⟩), .agg #[.int .i64 (9), .int .i64 (j), .int .i64 (c), .int .i64 (m), .int .u64 (a), .int .u64 (p), .bool (found), .int .i64 (tail), .int .i64 (cyc)]] w fun e w' => e = .returned (.tuple #[.agg #[.int .i64 (3), .int .i64 (j), .int .i64 (c + 1), .int .i64 (m), .int .u64 (0), .int .u64 (p), .bool (true), .int .i64 (tail), .int .i64 (cyc)], .bool true]) ∧ (RAt w' r rd cap ext (s.doIt (aStore (s.c.cellP 2 c) 2)) ∧ Fr [r, rd] w w') := by
  have B := RB.start H [.int .i64 (9), .int .i64 (j), .int .i64 (c), .int .i64 (m), .int .u64 (a), .int .u64 (p), .bool (found), .int .i64 (tail), .int .i64 (cyc)]
  have n0 := B.l1
  have n1 := B.l3
  have hrr := H.right
  (try replace hl := hid hl)
  (try have hlH := hl)
  (try replace hf := hid hf)
  (try have hfH := hf)

  clear H
  simp only [zCol] at B
  replace kX := B.x.cell
  replace fX := B.x.free
  replace kR := B.z.cell
  replace fR := B.z.free
  replace kH := B.H.cellsC (c := s.c) rfl
  go_enter Try.func79, Try.ntmps79
  go_wp2_with (first | (go_at_call 142; refine (rat16_any B.H 6 2 _ rfl (by omega) (by omega)).mono ?_; rintro e w2 ⟨rfl, hF2⟩; (replace B := B.kept0 hF2); (replace kX := B.x.cell); (replace fX := B.x.free); (replace kR := B.z.cell); (replace fR := B.z.free); (replace kH := B.H.cellsC (c := s.c) rfl)) | (go_at_call 134; refine (rhstore_any B.H _ _ (by omega)).mono ?_; rintro e w2 ⟨rfl, HH, hF2⟩; (replace B := B.hand HH hF2); clear HH; (replace kX := B.x.cell); (replace fX := B.x.free); (replace kR := B.z.cell); (replace fR := B.z.free); (replace kH := B.H.cellsC (c := s.c) rfl)) | (go_at_call 143; (replace B := B.set 4 (.int .u64 0)); (replace B := B.set 6 (.bool true)); simp only [List.set_cons_zero, List.set_cons_succ] at B; refine (rpassnext_found B.H _ _ _ _ _ _ _ _ _ hc hlH.out rfl).mono ?_; rintro e w2 ⟨rfl, HH, hF2⟩; (replace B := B.hand HH hF2); clear HH; (replace kX := B.x.cell); (replace fX := B.x.free); (replace kR := B.z.cell); (replace fR := B.z.free); (replace kH := B.H.cellsC (c := s.c) rfl)))
  refine bodyPost_ret (v := .tuple #[.agg #[.int .i64 (3), .int .i64 (j), .int .i64 (c + 1), .int .i64 (m), .int .u64 (0), .int .u64 (p), .bool (true), .int .i64 (tail), .int .i64 (cyc)], .bool true]) (by simp [results, Try.results79, go_sem, kX, kR]) rfl ⟨rfl, ?_⟩
  exact B.done _ _ _ _ _ _ _ _ _


set_option maxRecDepth 100000 in
set_option maxHeartbeats 4000000 in
theorem rpano {w : World} {r rd cap : Nat} {ext : List Value} {s : HS} (H : RAt w r rd cap ext s) (line j c m a p tail cyc : Int) (found : Bool) (k0 : ¬ line = 3) (k1 : ¬ line = 4) (k2 : ¬ line = 5) (k3 : ¬ line = 6) (k4 : ¬ line = 7) (k5 : ¬ line = 8) (k6 : ¬ line = 9) :
    Calls Try.prog 79 #[.pointer (some ⟨r, 0, none⟩), .agg #[.int .i64 (line), .int .i64 (j), .int .i64 (c), .int .i64 (m), .int .u64 (a), .int .u64 (p), .bool (found), .int .i64 (tail), .int .i64 (cyc)]] w fun e w' => e = .returned (.tuple #[.agg #[.int .i64 (line), .int .i64 (j), .int .i64 (c), .int .i64 (m), .int .u64 (a), .int .u64 (p), .bool (found), .int .i64 (tail), .int .i64 (cyc)], .bool false]) ∧ (RAt w' r rd cap ext (s) ∧ Fr [r, rd] w w') := by
  have B := RB.start H [.int .i64 (line), .int .i64 (j), .int .i64 (c), .int .i64 (m), .int .u64 (a), .int .u64 (p), .bool (found), .int .i64 (tail), .int .i64 (cyc)]
  have n0 := B.l1
  have n1 := B.l3
  have hrr := H.right
  have HNo := (H.alloc (.cells #[.int .i64 (line), .int .i64 (j), .int .i64 (c), .int .i64 (m), .int .u64 (a), .int .u64 (p), .bool (found), .int .i64 (tail), .int .i64 (cyc)] 86)).alloc (.cells #[.int .i64 (line), .int .i64 (j), .int .i64 (c), .int .i64 (m), .int .u64 (a), .int .u64 (p), .bool (found), .int .i64 (tail), .int .i64 (cyc)] 86)
  have FNo := ((Fr.refl [r, rd] w).alloc (.cells #[.int .i64 (line), .int .i64 (j), .int .i64 (c), .int .i64 (m), .int .u64 (a), .int .u64 (p), .bool (found), .int .i64 (tail), .int .i64 (cyc)] 86)).alloc (.cells #[.int .i64 (line), .int .i64 (j), .int .i64 (c), .int .i64 (m), .int .u64 (a), .int .u64 (p), .bool (found), .int .i64 (tail), .int .i64 (cyc)] 86)
  clear H
  simp only [zCol] at B
  replace kX := B.x.cell
  replace fX := B.x.free
  replace kR := B.z.cell
  replace fR := B.z.free
  replace kH := B.H.cellsC (c := s.c) rfl
  go_enter Try.func79, Try.ntmps79
  go_wp2_with fail
  refine bodyPost_ret (v := .tuple #[.agg #[.int .i64 (line), .int .i64 (j), .int .i64 (c), .int .i64 (m), .int .u64 (a), .int .u64 (p), .bool (found), .int .i64 (tail), .int .i64 (cyc)], .bool false]) (by simp [results, Try.results79, go_sem]) rfl ⟨rfl, ?_⟩
  exact ⟨HNo, FNo⟩

end Go.Proofs.Yteggckdgjecfmaa
