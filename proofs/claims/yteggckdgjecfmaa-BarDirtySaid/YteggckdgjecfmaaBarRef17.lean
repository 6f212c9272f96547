/- mudlarkref17.Step line by line. -/
import Derived.Test.YteggckdgjecfmaaCBox
import Derived.Test.YteggckdgjecfmaaRefIn
import Derived.Test.YteggckdgjecfmaaRootsRef
namespace Go.Proofs.Yteggckdgjecfmaa
open Go.RowKit
set_option linter.unusedVariables false
set_option linter.unusedSimpArgs false

theorem load_ru {w : World} {r rd cap : Nat} {ext : List Value} {s : HS} {i u : Int} (hu : wAt s.ws i = u) (H : RAt w r rd cap ext s) :
    Calls Try.prog 132 #[.pointer (some ⟨r, 0, none⟩), .int .i64 i] w fun e w' => e = .returned (.int .u64 u) ∧ (RAt w' r rd cap ext (s.doIt (aLoad i)) ∧ Fr [r, rd] w w') := by
  subst hu
  exact rhload_any H i
theorem load2_ru {w : World} {r rd cap : Nat} {ext : List Value} {s : HS} {u : Int} (hu : wAt s.ws 2 = u) (H : RAt w r rd cap ext s) :
    Calls Try.prog 132 #[.pointer (some ⟨r, 0, none⟩), .int .i64 2] w fun e w' => e = .returned (.int .u64 u) ∧ (RAt w' r rd cap ext (s.doIt (aLoad 2)) ∧ Fr [r, rd] w w') := load_ru hu H

set_option maxRecDepth 100000 in
set_option maxHeartbeats 4000000 in
theorem rba100m {w : World} {r rd cap : Nat} {ext : List Value} {s : HS} (H : RAt w r rd cap ext s) (j c m a p tail cyc : Int) (found : Bool) (hm : -1000000 ≤ m ∧ m ≤ 1000000) (u k : Int) (hu : wAt s.ws (s.c.inP m) = u) (hk : u % 4 = k) (hu0 : 0 ≤ u) (hu1 : u < 18446744073709551616) (k0 : k = 0) (hl : m + 1 < s.c.muts) :
    Calls Try.prog 70 #[.pointer (some ⟨r, 0, none⟩), .agg #[.int .i64 (10), .int .i64 (j), .int .i64 (c), .int .i64 (m), .int .u64 (a), .int .u64 (p), .bool (found), .int .i64 (tail), .int .i64 (cyc)]] w fun e w' => e = .returned (.tuple #[.agg #[.int .i64 (10), .int .i64 (j), .int .i64 (c), .int .i64 (m + 1), .int .u64 (0), .int .u64 (p), .bool (found), .int .i64 (tail), .int .i64 (cyc)], .bool false, .bool true]) ∧ (RAt w' r rd cap ext (s.doIt (aLoad (s.c.inP m))) ∧ Fr [r, rd] w w') := by
  have B := RB.start H [.int .i64 (10), .int .i64 (j), .int .i64 (c), .int .i64 (m), .int .u64 (a), .int .u64 (p), .bool (found), .int .i64 (tail), .int .i64 (cyc)]
  have n0 := B.l1
  have n1 := B.l3
  have hrr := H.right
  subst k0
  have hmw : IntKind.i64.wrap (m + 1) = m + 1 := w64 _ (by omega)

  clear H
  simp only [zCol] at B
  replace kX := B.x.cell
  replace fX := B.x.free
  replace kR := B.z.cell
  replace fR := B.z.free
  replace kH := B.H.cellsC (c := s.c) rfl
  go_enter Try.func70, Try.ntmps70
  go_upto_region 14 with (first | (go_at_call 136; refine (rIn_any B.H _).mono ?_; rintro e w2 ⟨rfl, hF2⟩; (replace B := B.kept0 hF2); (replace kX := B.x.cell); (replace fX := B.x.free); (replace kR := B.z.cell); (replace fR := B.z.free); (replace kH := B.H.cellsC (c := s.c) rfl)) | (go_at_call 132; refine (load_ru hu B.H).mono ?_; rintro e w2 ⟨rfl, HH, hF2⟩; (replace B := B.hand HH hF2); clear HH; (replace kX := B.x.cell); (replace fX := B.x.free); (replace kR := B.z.cell); (replace fR := B.z.free); (replace kH := B.H.cellsC (c := s.c) rfl)))
  replace B := B.set 4 (.int .u64 0)
  replace B := B.set 0 (.int .i64 10)
  replace B := B.set 3 (.int .i64 (m + 1))
  simp only [List.set_cons_zero, List.set_cons_succ] at B
  replace B := B.drew
  refine wp_region_held_drew (S := (fun (W : World) => W.cell? ⟨w.heap.size, 3, none⟩ = some (.int .i64 (m + 1)) ∧ W.cell? ⟨r, 0, none⟩ = some (.int .i64 s.c.cells) ∧ W.cell? ⟨r, 1, none⟩ = some (.int .i64 s.c.muts) ∧ W.cell? ⟨r, 2, none⟩ = some (.int .i64 s.c.regs) ∧ W.cell? ⟨r, 3, none⟩ = some (.int .i64 s.c.globs))) (by kernel_rfl) (by exact ⟨B.x.cell 3, B.H.blk.cell 0, B.H.blk.cell 1, B.H.blk.cell 2, B.H.blk.cell 3⟩) (fun hHeld => ?_)
  refine wpAnyH_take (i := 0) (v := ?_) rfl (by kernel_rfl) (by kernel_rfl) (by kernel_rfl) (fun _ _ _ h => h) (Or.inl ⟨by rfl, ?_⟩) (by assumption) ?_
  rotate_left
  · intro w hSw; (try dsimp only at hSw); go_simp; first | done | with_reducible rfl
  try simp only [Act.put, List.getElem_toArray, List.getElem_cons_succ, List.getElem_cons_zero, List.setIfInBounds_toArray, List.set_cons_zero, List.set_cons_succ]
  refine wpAnyH_take (i := 1) (v := ?_) rfl (by kernel_rfl) (by kernel_rfl) (by kernel_rfl) (fun _ _ _ h => h) (Or.inl ⟨by rfl, ?_⟩) (by assumption) ?_
  rotate_left
  · intro w hSw; (try dsimp only at hSw); go_simp; first | done | with_reducible rfl
  try simp only [Act.put, List.getElem_toArray, List.getElem_cons_succ, List.getElem_cons_zero, List.setIfInBounds_toArray, List.set_cons_zero, List.set_cons_succ]
  refine wpAnyH_take (i := 2) (v := ?_) rfl (by kernel_rfl) (by kernel_rfl) (by kernel_rfl) (fun _ _ _ h => h) (Or.inl ⟨by rfl, ?_⟩) (by assumption) ?_
  rotate_left
  · intro w hSw; (try dsimp only at hSw); go_simp; first | done | with_reducible rfl
  try simp only [Act.put, List.getElem_toArray, List.getElem_cons_succ, List.getElem_cons_zero, List.setIfInBounds_toArray, List.set_cons_zero, List.set_cons_succ]
  refine wpAnyH_take (i := 3) (v := ?_) rfl (by kernel_rfl) (by kernel_rfl) (by kernel_rfl) (fun _ _ _ h => h) (Or.inl ⟨by rfl, ?_⟩) (by assumption) ?_
  rotate_left
  · intro w hSw; (try dsimp only at hSw); go_simp; first | done | with_reducible rfl
  try simp only [Act.put, List.getElem_toArray, List.getElem_cons_succ, List.getElem_cons_zero, List.setIfInBounds_toArray, List.set_cons_zero, List.set_cons_succ]
  refine wpAnyH_take (i := 4) (v := ?_) rfl (by kernel_rfl) (by kernel_rfl) (by kernel_rfl) (fun _ _ _ h => h) (Or.inl ⟨by rfl, ?_⟩) (by assumption) ?_
  rotate_left
  · intro w hSw; (try dsimp only at hSw); go_simp; first | done | with_reducible rfl
  try simp only [Act.put, List.getElem_toArray, List.getElem_cons_succ, List.getElem_cons_zero, List.setIfInBounds_toArray, List.set_cons_zero, List.set_cons_succ]
  refine wpAnyH_take (i := 5) (v := ?_) rfl (by kernel_rfl) (by kernel_rfl) (by kernel_rfl) (fun _ _ _ h => h) (Or.inl ⟨by rfl, ?_⟩) (by assumption) ?_
  rotate_left
  · intro w hSw; (try dsimp only at hSw); go_simp; first | done | with_reducible rfl
  try simp only [Act.put, List.getElem_toArray, List.getElem_cons_succ, List.getElem_cons_zero, List.setIfInBounds_toArray, List.set_cons_zero, List.set_cons_succ]
  refine wpAnyH_take (i := 6) (v := ?_) rfl (by kernel_rfl) (by kernel_rfl) (by kernel_rfl) (fun _ _ _ h => h) (Or.inl ⟨by rfl, ?_⟩) (by assumption) ?_
  rotate_left
  · intro w hSw; (try dsimp only at hSw); go_simp; first | done | with_reducible rfl
  try simp only [Act.put, List.getElem_toArray, List.getElem_cons_succ, List.getElem_cons_zero, List.setIfInBounds_toArray, List.set_cons_zero, List.set_cons_succ]
  refine wpAnyH_take (i := 7) (v := ?_) rfl (by kernel_rfl) (by kernel_rfl) (by kernel_rfl) (fun _ _ _ h => h) (Or.inl ⟨by rfl, ?_⟩) (by assumption) ?_
  rotate_left
  · intro w hSw; (try dsimp only at hSw); go_simp; first | done | with_reducible rfl
  try simp only [Act.put, List.getElem_toArray, List.getElem_cons_succ, List.getElem_cons_zero, List.setIfInBounds_toArray, List.set_cons_zero, List.set_cons_succ]
  refine wpAnyH_done (by kernel_rfl) ?_ _
  clear hHeld
  obtain ⟨W9, hW9, B9⟩ : ∃ W9, W9 = _ ∧ RB w r rd cap ext _ _ W9 := ⟨_, rfl, B⟩
  rw [← hW9]
  clear B hW9
  have B := B9
  clear B9
  replace kX := B.x.cell
  replace fX := B.x.free
  replace kR := B.z.cell
  replace fR := B.z.free
  replace kH := B.H.cellsC (c := s.c) rfl
  go_wp2_with fail
  refine bodyPost_ret (v := .tuple #[.agg #[.int .i64 (10), .int .i64 (j), .int .i64 (c), .int .i64 (m + 1), .int .u64 (0), .int .u64 (p), .bool (found), .int .i64 (tail), .int .i64 (cyc)], .bool false, .bool true]) (by simp [results, Try.results70, go_sem, kX, kR]) rfl ⟨rfl, ?_⟩
  exact B.done _ _ _ _ _ _ _ _ _


set_option maxRecDepth 100000 in
set_option maxHeartbeats 4000000 in
theorem rba100o {w : World} {r rd cap : Nat} {ext : List Value} {s : HS} (H : RAt w r rd cap ext s) (j c m a p tail cyc : Int) (found : Bool) (hm : -1000000 ≤ m ∧ m ≤ 1000000) (u k : Int) (hu : wAt s.ws (s.c.inP m) = u) (hk : u % 4 = k) (hu0 : 0 ≤ u) (hu1 : u < 18446744073709551616) (k0 : k = 0) (hl : s.c.muts ≤ m + 1) :
    Calls Try.prog 70 #[.pointer (some ⟨r, 0, none⟩), .agg #[.int .i64 (10), .int .i64 (j), .int .i64 (c), .int .i64 (m), .int .u64 (a), .int .u64 (p), .bool (found), .int .i64 (tail), .int .i64 (cyc)]] w fun e w' => e = .returned (.tuple #[.agg #[.int .i64 (11), .int .i64 (j), .int .i64 (c), .int .i64 (0), .int .u64 (0), .int .u64 (p), .bool (found), .int .i64 (tail), .int .i64 (cyc)], .bool false, .bool true]) ∧ (RAt w' r rd cap ext (s.doIt (aLoad (s.c.inP m))) ∧ Fr [r, rd] w w') := by
  have B := RB.start H [.int .i64 (10), .int .i64 (j), .int .i64 (c), .int .i64 (m), .int .u64 (a), .int .u64 (p), .bool (found), .int .i64 (tail), .int .i64 (cyc)]
  have n0 := B.l1
  have n1 := B.l3
  have hrr := H.right
  subst k0
  have hmw : IntKind.i64.wrap (m + 1) = m + 1 := w64 _ (by omega)

  clear H
  simp only [zCol] at B
  replace kX := B.x.cell
  replace fX := B.x.free
  replace kR := B.z.cell
  replace fR := B.z.free
  replace kH := B.H.cellsC (c := s.c) rfl
  go_enter Try.func70, Try.ntmps70
  go_upto_region 14 with (first | (go_at_call 136; refine (rIn_any B.H _).mono ?_; rintro e w2 ⟨rfl, hF2⟩; (replace B := B.kept0 hF2); (replace kX := B.x.cell); (replace fX := B.x.free); (replace kR := B.z.cell); (replace fR := B.z.free); (replace kH := B.H.cellsC (c := s.c) rfl)) | (go_at_call 132; refine (load_ru hu B.H).mono ?_; rintro e w2 ⟨rfl, HH, hF2⟩; (replace B := B.hand HH hF2); clear HH; (replace kX := B.x.cell); (replace fX := B.x.free); (replace kR := B.z.cell); (replace fR := B.z.free); (replace kH := B.H.cellsC (c := s.c) rfl)))
  replace B := B.set 4 (.int .u64 0)
  replace B := B.set 0 (.int .i64 10)
  replace B := B.set 3 (.int .i64 (m + 1))
  simp only [List.set_cons_zero, List.set_cons_succ] at B
  replace B := B.drew
  refine wp_region_held_drew (S := (fun (W : World) => W.cell? ⟨w.heap.size, 3, none⟩ = some (.int .i64 (m + 1)) ∧ W.cell? ⟨r, 0, none⟩ = some (.int .i64 s.c.cells) ∧ W.cell? ⟨r, 1, none⟩ = some (.int .i64 s.c.muts) ∧ W.cell? ⟨r, 2, none⟩ = some (.int .i64 s.c.regs) ∧ W.cell? ⟨r, 3, none⟩ = some (.int .i64 s.c.globs))) (by kernel_rfl) (by exact ⟨B.x.cell 3, B.H.blk.cell 0, B.H.blk.cell 1, B.H.blk.cell 2, B.H.blk.cell 3⟩) (fun hHeld => ?_)
  refine wpAnyH_take (i := 0) (v := ?_) rfl (by kernel_rfl) (by kernel_rfl) (by kernel_rfl) (fun _ _ _ h => h) (Or.inl ⟨by rfl, ?_⟩) (by assumption) ?_
  rotate_left
  · intro w hSw; (try dsimp only at hSw); go_simp; first | done | with_reducible rfl
  try simp only [Act.put, List.getElem_toArray, List.getElem_cons_succ, List.getElem_cons_zero, List.setIfInBounds_toArray, List.set_cons_zero, List.set_cons_succ]
  refine wpAnyH_take (i := 1) (v := ?_) rfl (by kernel_rfl) (by kernel_rfl) (by kernel_rfl) (fun _ _ _ h => h) (Or.inl ⟨by rfl, ?_⟩) (by assumption) ?_
  rotate_left
  · intro w hSw; (try dsimp only at hSw); go_simp; first | done | with_reducible rfl
  try simp only [Act.put, List.getElem_toArray, List.getElem_cons_succ, List.getElem_cons_zero, List.setIfInBounds_toArray, List.set_cons_zero, List.set_cons_succ]
  refine wpAnyH_take (i := 2) (v := ?_) rfl (by kernel_rfl) (by kernel_rfl) (by kernel_rfl) (fun _ _ _ h => h) (Or.inl ⟨by rfl, ?_⟩) (by assumption) ?_
  rotate_left
  · intro w hSw; (try dsimp only at hSw); go_simp; first | done | with_reducible rfl
  try simp only [Act.put, List.getElem_toArray, List.getElem_cons_succ, List.getElem_cons_zero, List.setIfInBounds_toArray, List.set_cons_zero, List.set_cons_succ]
  refine wpAnyH_take (i := 3) (v := ?_) rfl (by kernel_rfl) (by kernel_rfl) (by kernel_rfl) (fun _ _ _ h => h) (Or.inl ⟨by rfl, ?_⟩) (by assumption) ?_
  rotate_left
  · intro w hSw; (try dsimp only at hSw); go_simp; first | done | with_reducible rfl
  try simp only [Act.put, List.getElem_toArray, List.getElem_cons_succ, List.getElem_cons_zero, List.setIfInBounds_toArray, List.set_cons_zero, List.set_cons_succ]
  refine wpAnyH_take (i := 4) (v := ?_) rfl (by kernel_rfl) (by kernel_rfl) (by kernel_rfl) (fun _ _ _ h => h) (Or.inl ⟨by rfl, ?_⟩) (by assumption) ?_
  rotate_left
  · intro w hSw; (try dsimp only at hSw); go_simp; first | done | with_reducible rfl
  try simp only [Act.put, List.getElem_toArray, List.getElem_cons_succ, List.getElem_cons_zero, List.setIfInBounds_toArray, List.set_cons_zero, List.set_cons_succ]
  refine wpAnyH_take (i := 5) (v := ?_) rfl (by kernel_rfl) (by kernel_rfl) (by kernel_rfl) (fun _ _ _ h => h) (Or.inl ⟨by rfl, ?_⟩) (by assumption) ?_
  rotate_left
  · intro w hSw; (try dsimp only at hSw); go_simp; first | done | with_reducible rfl
  try simp only [Act.put, List.getElem_toArray, List.getElem_cons_succ, List.getElem_cons_zero, List.setIfInBounds_toArray, List.set_cons_zero, List.set_cons_succ]
  refine wpAnyH_take (i := 6) (v := ?_) rfl (by kernel_rfl) (by kernel_rfl) (by kernel_rfl) (fun _ _ _ h => h) (Or.inl ⟨by rfl, ?_⟩) (by assumption) ?_
  rotate_left
  · intro w hSw; (try dsimp only at hSw); go_simp; first | done | with_reducible rfl
  try simp only [Act.put, List.getElem_toArray, List.getElem_cons_succ, List.getElem_cons_zero, List.setIfInBounds_toArray, List.set_cons_zero, List.set_cons_succ]
  refine wpAnyH_take (i := 7) (v := ?_) rfl (by kernel_rfl) (by kernel_rfl) (by kernel_rfl) (fun _ _ _ h => h) (Or.inl ⟨by rfl, ?_⟩) (by assumption) ?_
  rotate_left
  · intro w hSw; (try dsimp only at hSw); go_simp; first | done | with_reducible rfl
  try simp only [Act.put, List.getElem_toArray, List.getElem_cons_succ, List.getElem_cons_zero, List.setIfInBounds_toArray, List.set_cons_zero, List.set_cons_succ]
  refine wpAnyH_done (by kernel_rfl) ?_ _
  clear hHeld
  obtain ⟨W9, hW9, B9⟩ : ∃ W9, W9 = _ ∧ RB w r rd cap ext _ _ W9 := ⟨_, rfl, B⟩
  rw [← hW9]
  clear B hW9
  have B := B9
  clear B9
  replace kX := B.x.cell
  replace fX := B.x.free
  replace kR := B.z.cell
  replace fR := B.z.free
  replace kH := B.H.cellsC (c := s.c) rfl
  go_wp2_with fail
  replace B := B.set 3 (.int .i64 0)
  replace B := B.set 0 (.int .i64 11)
  refine bodyPost_ret (v := .tuple #[.agg #[.int .i64 (11), .int .i64 (j), .int .i64 (c), .int .i64 (0), .int .u64 (0), .int .u64 (p), .bool (found), .int .i64 (tail), .int .i64 (cyc)], .bool false, .bool true]) (by simp [results, Try.results70, go_sem, kX, kR]) rfl ⟨rfl, ?_⟩
  exact B.done _ _ _ _ _ _ _ _ _


set_option maxRecDepth 100000 in
set_option maxHeartbeats 4000000 in
theorem rba102m {w : World} {r rd cap : Nat} {ext : List Value} {s : HS} (H : RAt w r rd cap ext s) (j c m a p tail cyc : Int) (found : Bool) (hm : -1000000 ≤ m ∧ m ≤ 1000000) (u k : Int) (hu : wAt s.ws (s.c.inP m) = u) (hk : u % 4 = k) (hu0 : 0 ≤ u) (hu1 : u < 18446744073709551616) (k0 : k = 2) (hl : m + 1 < s.c.muts) :
    Calls Try.prog 70 #[.pointer (some ⟨r, 0, none⟩), .agg #[.int .i64 (10), .int .i64 (j), .int .i64 (c), .int .i64 (m), .int .u64 (a), .int .u64 (p), .bool (found), .int .i64 (tail), .int .i64 (cyc)]] w fun e w' => e = .returned (.tuple #[.agg #[.int .i64 (10), .int .i64 (j), .int .i64 (c), .int .i64 (m + 1), .int .u64 (0), .int .u64 (p), .bool (found), .int .i64 (tail), .int .i64 (cyc)], .bool false, .bool true]) ∧ (RAt w' r rd cap ext (s.doIt (aLoad (s.c.inP m))) ∧ Fr [r, rd] w w') := by
  have B := RB.start H [.int .i64 (10), .int .i64 (j), .int .i64 (c), .int .i64 (m), .int .u64 (a), .int .u64 (p), .bool (found), .int .i64 (tail), .int .i64 (cyc)]
  have n0 := B.l1
  have n1 := B.l3
  have hrr := H.right
  subst k0
  have hmw : IntKind.i64.wrap (m + 1) = m + 1 := w64 _ (by omega)

  clear H
  simp only [zCol] at B
  replace kX := B.x.cell
  replace fX := B.x.free
  replace kR := B.z.cell
  replace fR := B.z.free
  replace kH := B.H.cellsC (c := s.c) rfl
  go_enter Try.func70, Try.ntmps70
  go_upto_region 14 with (first | (go_at_call 136; refine (rIn_any B.H _).mono ?_; rintro e w2 ⟨rfl, hF2⟩; (replace B := B.kept0 hF2); (replace kX := B.x.cell); (replace fX := B.x.free); (replace kR := B.z.cell); (replace fR := B.z.free); (replace kH := B.H.cellsC (c := s.c) rfl)) | (go_at_call 132; refine (load_ru hu B.H).mono ?_; rintro e w2 ⟨rfl, HH, hF2⟩; (replace B := B.hand HH hF2); clear HH; (replace kX := B.x.cell); (replace fX := B.x.free); (replace kR := B.z.cell); (replace fR := B.z.free); (replace kH := B.H.cellsC (c := s.c) rfl)))
  replace B := B.set 4 (.int .u64 0)
  replace B := B.set 0 (.int .i64 10)
  replace B := B.set 3 (.int .i64 (m + 1))
  simp only [List.set_cons_zero, List.set_cons_succ] at B
  replace B := B.drew
  refine wp_region_held_drew (S := (fun (W : World) => W.cell? ⟨w.heap.size, 3, none⟩ = some (.int .i64 (m + 1)) ∧ W.cell? ⟨r, 0, none⟩ = some (.int .i64 s.c.cells) ∧ W.cell? ⟨r, 1, none⟩ = some (.int .i64 s.c.muts) ∧ W.cell? ⟨r, 2, none⟩ = some (.int .i64 s.c.regs) ∧ W.cell? ⟨r, 3, none⟩ = some (.int .i64 s.c.globs))) (by kernel_rfl) (by exact ⟨B.x.cell 3, B.H.blk.cell 0, B.H.blk.cell 1, B.H.blk.cell 2, B.H.blk.cell 3⟩) (fun hHeld => ?_)
  refine wpAnyH_take (i := 0) (v := ?_) rfl (by kernel_rfl) (by kernel_rfl) (by kernel_rfl) (fun _ _ _ h => h) (Or.inl ⟨by rfl, ?_⟩) (by assumption) ?_
  rotate_left
  · intro w hSw; (try dsimp only at hSw); go_simp; first | done | with_reducible rfl
  try simp only [Act.put, List.getElem_toArray, List.getElem_cons_succ, List.getElem_cons_zero, List.setIfInBounds_toArray, List.set_cons_zero, List.set_cons_succ]
  refine wpAnyH_take (i := 1) (v := ?_) rfl (by kernel_rfl) (by kernel_rfl) (by kernel_rfl) (fun _ _ _ h => h) (Or.inl ⟨by rfl, ?_⟩) (by assumption) ?_
  rotate_left
  · intro w hSw; (try dsimp only at hSw); go_simp; first | done | with_reducible rfl
  try simp only [Act.put, List.getElem_toArray, List.getElem_cons_succ, List.getElem_cons_zero, List.setIfInBounds_toArray, List.set_cons_zero, List.set_cons_succ]
  refine wpAnyH_take (i := 2) (v := ?_) rfl (by kernel_rfl) (by kernel_rfl) (by kernel_rfl) (fun _ _ _ h => h) (Or.inl ⟨by rfl, ?_⟩) (by assumption) ?_
  rotate_left
  · intro w hSw; (try dsimp only at hSw); go_simp; first | done | with_reducible rfl
  try simp only [Act.put, List.getElem_toArray, List.getElem_cons_succ, List.getElem_cons_zero, List.setIfInBounds_toArray, List.set_cons_zero, List.set_cons_succ]
  refine wpAnyH_take (i := 3) (v := ?_) rfl (by kernel_rfl) (by kernel_rfl) (by kernel_rfl) (fun _ _ _ h => h) (Or.inl ⟨by rfl, ?_⟩) (by assumption) ?_
  rotate_left
  · intro w hSw; (try dsimp only at hSw); go_simp; first | done | with_reducible rfl
  try simp only [Act.put, List.getElem_toArray, List.getElem_cons_succ, List.getElem_cons_zero, List.setIfInBounds_toArray, List.set_cons_zero, List.set_cons_succ]
  refine wpAnyH_take (i := 4) (v := ?_) rfl (by kernel_rfl) (by kernel_rfl) (by kernel_rfl) (fun _ _ _ h => h) (Or.inl ⟨by rfl, ?_⟩) (by assumption) ?_
  rotate_left
  · intro w hSw; (try dsimp only at hSw); go_simp; first | done | with_reducible rfl
  try simp only [Act.put, List.getElem_toArray, List.getElem_cons_succ, List.getElem_cons_zero, List.setIfInBounds_toArray, List.set_cons_zero, List.set_cons_succ]
  refine wpAnyH_take (i := 5) (v := ?_) rfl (by kernel_rfl) (by kernel_rfl) (by kernel_rfl) (fun _ _ _ h => h) (Or.inl ⟨by rfl, ?_⟩) (by assumption) ?_
  rotate_left
  · intro w hSw; (try dsimp only at hSw); go_simp; first | done | with_reducible rfl
  try simp only [Act.put, List.getElem_toArray, List.getElem_cons_succ, List.getElem_cons_zero, List.setIfInBounds_toArray, List.set_cons_zero, List.set_cons_succ]
  refine wpAnyH_take (i := 6) (v := ?_) rfl (by kernel_rfl) (by kernel_rfl) (by kernel_rfl) (fun _ _ _ h => h) (Or.inl ⟨by rfl, ?_⟩) (by assumption) ?_
  rotate_left
  · intro w hSw; (try dsimp only at hSw); go_simp; first | done | with_reducible rfl
  try simp only [Act.put, List.getElem_toArray, List.getElem_cons_succ, List.getElem_cons_zero, List.setIfInBounds_toArray, List.set_cons_zero, List.set_cons_succ]
  refine wpAnyH_take (i := 7) (v := ?_) rfl (by kernel_rfl) (by kernel_rfl) (by kernel_rfl) (fun _ _ _ h => h) (Or.inl ⟨by rfl, ?_⟩) (by assumption) ?_
  rotate_left
  · intro w hSw; (try dsimp only at hSw); go_simp; first | done | with_reducible rfl
  try simp only [Act.put, List.getElem_toArray, List.getElem_cons_succ, List.getElem_cons_zero, List.setIfInBounds_toArray, List.set_cons_zero, List.set_cons_succ]
  refine wpAnyH_done (by kernel_rfl) ?_ _
  clear hHeld
  obtain ⟨W9, hW9, B9⟩ : ∃ W9, W9 = _ ∧ RB w r rd cap ext _ _ W9 := ⟨_, rfl, B⟩
  rw [← hW9]
  clear B hW9
  have B := B9
  clear B9
  replace kX := B.x.cell
  replace fX := B.x.free
  replace kR := B.z.cell
  replace fR := B.z.free
  replace kH := B.H.cellsC (c := s.c) rfl
  go_wp2_with fail
  refine bodyPost_ret (v := .tuple #[.agg #[.int .i64 (10), .int .i64 (j), .int .i64 (c), .int .i64 (m + 1), .int .u64 (0), .int .u64 (p), .bool (found), .int .i64 (tail), .int .i64 (cyc)], .bool false, .bool true]) (by simp [results, Try.results70, go_sem, kX, kR]) rfl ⟨rfl, ?_⟩
  exact B.done _ _ _ _ _ _ _ _ _


set_option maxRecDepth 100000 in
set_option maxHeartbeats 4000000 in
theorem rba102o {w : World} {r rd cap : Nat} {ext : List Value} {s : HS} (H : RAt w r rd cap ext s) (j c m a p tail cyc : Int) (found : Bool) (hm : -1000000 ≤ m ∧ m ≤ 1000000) (u k : Int) (hu : wAt s.ws (s.c.inP m) = u) (hk : u % 4 = k) (hu0 : 0 ≤ u) (hu1 : u < 18446744073709551616) (k0 : k = 2) (hl : s.c.muts ≤ m + 1) :
    Calls Try.prog 70 #[.pointer (some ⟨r, 0, none⟩), .agg #[.int .i64 (10), .int .i64 (j), .int .i64 (c), .int .i64 (m), .int .u64 (a), .int .u64 (p), .bool (found), .int .i64 (tail), .int .i64 (cyc)]] w fun e w' => e = .returned (.tuple #[.agg #[.int .i64 (11), .int .i64 (j), .int .i64 (c), .int .i64 (0), .int .u64 (0), .int .u64 (p), .bool (found), .int .i64 (tail), .int .i64 (cyc)], .bool false, .bool true]) ∧ (RAt w' r rd cap ext (s.doIt (aLoad (s.c.inP m))) ∧ Fr [r, rd] w w') := by
  have B := RB.start H [.int .i64 (10), .int .i64 (j), .int .i64 (c), .int .i64 (m), .int .u64 (a), .int .u64 (p), .bool (found), .int .i64 (tail), .int .i64 (cyc)]
  have n0 := B.l1
  have n1 := B.l3
  have hrr := H.right
  subst k0
  have hmw : IntKind.i64.wrap (m + 1) = m + 1 := w64 _ (by omega)

  clear H
  simp only [zCol] at B
  replace kX := B.x.cell
  replace fX := B.x.free
  replace kR := B.z.cell
  replace fR := B.z.free
  replace kH := B.H.cellsC (c := s.c) rfl
  go_enter Try.func70, Try.ntmps70
  go_upto_region 14 with (first | (go_at_call 136; refine (rIn_any B.H _).mono ?_; rintro e w2 ⟨rfl, hF2⟩; (replace B := B.kept0 hF2); (replace kX := B.x.cell); (replace fX := B.x.free); (replace kR := B.z.cell); (replace fR := B.z.free); (replace kH := B.H.cellsC (c := s.c) rfl)) | (go_at_call 132; refine (load_ru hu B.H).mono ?_; rintro e w2 ⟨rfl, HH, hF2⟩; (replace B := B.hand HH hF2); clear HH; (replace kX := B.x.cell); (replace fX := B.x.free); (replace kR := B.z.cell); (replace fR := B.z.free); (replace kH := B.H.cellsC (c := s.c) rfl)))
  replace B := B.set 4 (.int .u64 0)
  replace B := B.set 0 (.int .i64 10)
  replace B := B.set 3 (.int .i64 (m + 1))
  simp only [List.set_cons_zero, List.set_cons_succ] at B
  replace B := B.drew
  refine wp_region_held_drew (S := (fun (W : World) => W.cell? ⟨w.heap.size, 3, none⟩ = some (.int .i64 (m + 1)) ∧ W.cell? ⟨r, 0, none⟩ = some (.int .i64 s.c.cells) ∧ W.cell? ⟨r, 1, none⟩ = some (.int .i64 s.c.muts) ∧ W.cell? ⟨r, 2, none⟩ = some (.int .i64 s.c.regs) ∧ W.cell? ⟨r, 3, none⟩ = some (.int .i64 s.c.globs))) (by kernel_rfl) (by exact ⟨B.x.cell 3, B.H.blk.cell 0, B.H.blk.cell 1, B.H.blk.cell 2, B.H.blk.cell 3⟩) (fun hHeld => ?_)
  refine wpAnyH_take (i := 0) (v := ?_) rfl (by kernel_rfl) (by kernel_rfl) (by kernel_rfl) (fun _ _ _ h => h) (Or.inl ⟨by rfl, ?_⟩) (by assumption) ?_
  rotate_left
  · intro w hSw; (try dsimp only at hSw); go_simp; first | done | with_reducible rfl
  try simp only [Act.put, List.getElem_toArray, List.getElem_cons_succ, List.getElem_cons_zero, List.setIfInBounds_toArray, List.set_cons_zero, List.set_cons_succ]
  refine wpAnyH_take (i := 1) (v := ?_) rfl (by kernel_rfl) (by kernel_rfl) (by kernel_rfl) (fun _ _ _ h => h) (Or.inl ⟨by rfl, ?_⟩) (by assumption) ?_
  rotate_left
  · intro w hSw; (try dsimp only at hSw); go_simp; first | done | with_reducible rfl
  try simp only [Act.put, List.getElem_toArray, List.getElem_cons_succ, List.getElem_cons_zero, List.setIfInBounds_toArray, List.set_cons_zero, List.set_cons_succ]
  refine wpAnyH_take (i := 2) (v := ?_) rfl (by kernel_rfl) (by kernel_rfl) (by kernel_rfl) (fun _ _ _ h => h) (Or.inl ⟨by rfl, ?_⟩) (by assumption) ?_
  rotate_left
  · intro w hSw; (try dsimp only at hSw); go_simp; first | done | with_reducible rfl
  try simp only [Act.put, List.getElem_toArray, List.getElem_cons_succ, List.getElem_cons_zero, List.setIfInBounds_toArray, List.set_cons_zero, List.set_cons_succ]
  refine wpAnyH_take (i := 3) (v := ?_) rfl (by kernel_rfl) (by kernel_rfl) (by kernel_rfl) (fun _ _ _ h => h) (Or.inl ⟨by rfl, ?_⟩) (by assumption) ?_
  rotate_left
  · intro w hSw; (try dsimp only at hSw); go_simp; first | done | with_reducible rfl
  try simp only [Act.put, List.getElem_toArray, List.getElem_cons_succ, List.getElem_cons_zero, List.setIfInBounds_toArray, List.set_cons_zero, List.set_cons_succ]
  refine wpAnyH_take (i := 4) (v := ?_) rfl (by kernel_rfl) (by kernel_rfl) (by kernel_rfl) (fun _ _ _ h => h) (Or.inl ⟨by rfl, ?_⟩) (by assumption) ?_
  rotate_left
  · intro w hSw; (try dsimp only at hSw); go_simp; first | done | with_reducible rfl
  try simp only [Act.put, List.getElem_toArray, List.getElem_cons_succ, List.getElem_cons_zero, List.setIfInBounds_toArray, List.set_cons_zero, List.set_cons_succ]
  refine wpAnyH_take (i := 5) (v := ?_) rfl (by kernel_rfl) (by kernel_rfl) (by kernel_rfl) (fun _ _ _ h => h) (Or.inl ⟨by rfl, ?_⟩) (by assumption) ?_
  rotate_left
  · intro w hSw; (try dsimp only at hSw); go_simp; first | done | with_reducible rfl
  try simp only [Act.put, List.getElem_toArray, List.getElem_cons_succ, List.getElem_cons_zero, List.setIfInBounds_toArray, List.set_cons_zero, List.set_cons_succ]
  refine wpAnyH_take (i := 6) (v := ?_) rfl (by kernel_rfl) (by kernel_rfl) (by kernel_rfl) (fun _ _ _ h => h) (Or.inl ⟨by rfl, ?_⟩) (by assumption) ?_
  rotate_left
  · intro w hSw; (try dsimp only at hSw); go_simp; first | done | with_reducible rfl
  try simp only [Act.put, List.getElem_toArray, List.getElem_cons_succ, List.getElem_cons_zero, List.setIfInBounds_toArray, List.set_cons_zero, List.set_cons_succ]
  refine wpAnyH_take (i := 7) (v := ?_) rfl (by kernel_rfl) (by kernel_rfl) (by kernel_rfl) (fun _ _ _ h => h) (Or.inl ⟨by rfl, ?_⟩) (by assumption) ?_
  rotate_left
  · intro w hSw; (try dsimp only at hSw); go_simp; first | done | with_reducible rfl
  try simp only [Act.put, List.getElem_toArray, List.getElem_cons_succ, List.getElem_cons_zero, List.setIfInBounds_toArray, List.set_cons_zero, List.set_cons_succ]
  refine wpAnyH_done (by kernel_rfl) ?_ _
  clear hHeld
  obtain ⟨W9, hW9, B9⟩ : ∃ W9, W9 = _ ∧ RB w r rd cap ext _ _ W9 := ⟨_, rfl, B⟩
  rw [← hW9]
  clear B hW9
  have B := B9
  clear B9
  replace kX := B.x.cell
  replace fX := B.x.free
  replace kR := B.z.cell
  replace fR := B.z.free
  replace kH := B.H.cellsC (c := s.c) rfl
  go_wp2_with fail
  replace B := B.set 3 (.int .i64 0)
  replace B := B.set 0 (.int .i64 11)
  refine bodyPost_ret (v := .tuple #[.agg #[.int .i64 (11), .int .i64 (j), .int .i64 (c), .int .i64 (0), .int .u64 (0), .int .u64 (p), .bool (found), .int .i64 (tail), .int .i64 (cyc)], .bool false, .bool true]) (by simp [results, Try.results70, go_sem, kX, kR]) rfl ⟨rfl, ?_⟩
  exact B.done _ _ _ _ _ _ _ _ _


set_option maxRecDepth 100000 in
set_option maxHeartbeats 4000000 in
theorem rba101 {w : World} {r rd cap : Nat} {ext : List Value} {s : HS} (H : RAt w r rd cap ext s) (j c m a p tail cyc : Int) (found : Bool) (hm : -1000000 ≤ m ∧ m ≤ 1000000) (u k : Int) (hu : wAt s.ws (s.c.inP m) = u) (hk : u % 4 = k) (hu0 : 0 ≤ u) (hu1 : u < 18446744073709551616) (k0 : k = 1) :
    Calls Try.prog 70 #[.pointer (some ⟨r, 0, none⟩), .agg #[.int .i64 (10), .int .i64 (j), .int .i64 (c), .int .i64 (m), .int .u64 (a), .int .u64 (p), .bool (found), .int .i64 (tail), .int .i64 (cyc)]] w fun e w' => e = .returned (.tuple #[.agg #[.int .i64 (16), .int .i64 (j), .int .i64 (c), .int .i64 (m), .int .u64 (u), .int .u64 (p), .bool (found), .int .i64 (tail), .int .i64 (cyc)], .bool false, .bool true]) ∧ (RAt w' r rd cap ext (s.doIt (aLoad (s.c.inP m))) ∧ Fr [r, rd] w w') := by
  have B := RB.start H [.int .i64 (10), .int .i64 (j), .int .i64 (c), .int .i64 (m), .int .u64 (a), .int .u64 (p), .bool (found), .int .i64 (tail), .int .i64 (cyc)]
  have n0 := B.l1
  have n1 := B.l3
  have hrr := H.right
  subst k0
  have hmw : IntKind.i64.wrap (m + 1) = m + 1 := w64 _ (by omega)

  clear H
  simp only [zCol] at B
  replace kX := B.x.cell
  replace fX := B.x.free
  replace kR := B.z.cell
  replace fR := B.z.free
  replace kH := B.H.cellsC (c := s.c) rfl
  go_enter Try.func70, Try.ntmps70
  go_wp2_with (first | (go_at_call 136; refine (rIn_any B.H _).mono ?_; rintro e w2 ⟨rfl, hF2⟩; (replace B := B.kept0 hF2); (replace kX := B.x.cell); (replace fX := B.x.free); (replace kR := B.z.cell); (replace fR := B.z.free); (replace kH := B.H.cellsC (c := s.c) rfl)) | (go_at_call 132; refine (load_ru hu B.H).mono ?_; rintro e w2 ⟨rfl, HH, hF2⟩; (replace B := B.hand HH hF2); clear HH; (replace kX := B.x.cell); (replace fX := B.x.free); (replace kR := B.z.cell); (replace fR := B.z.free); (replace kH := B.H.cellsC (c := s.c) rfl)))
  replace B := B.set 4 (.int .u64 u)
  replace B := B.set 0 (.int .i64 16)
  refine bodyPost_ret (v := .tuple #[.agg #[.int .i64 (16), .int .i64 (j), .int .i64 (c), .int .i64 (m), .int .u64 (u), .int .u64 (p), .bool (found), .int .i64 (tail), .int .i64 (cyc)], .bool false, .bool true]) (by simp [results, Try.results70, go_sem, kX, kR]) rfl ⟨rfl, ?_⟩
  exact B.done _ _ _ _ _ _ _ _ _


set_option maxRecDepth 100000 in
set_option maxHeartbeats 4000000 in
theorem rba103 {w : World} {r rd cap : Nat} {ext : List Value} {s : HS} (H : RAt w r rd cap ext s) (j c m a p tail cyc : Int) (found : Bool) (hm : -1000000 ≤ m ∧ m ≤ 1000000) (u k : Int) (hu : wAt s.ws (s.c.inP m) = u) (hk : u % 4 = k) (hu0 : 0 ≤ u) (hu1 : u < 18446744073709551616) (k0 : k = 3) :
    Calls Try.prog 70 #[.pointer (some ⟨r, 0, none⟩), .agg #[.int .i64 (10), .int .i64 (j), .int .i64 (c), .int .i64 (m), .int .u64 (a), .int .u64 (p), .bool (found), .int .i64 (tail), .int .i64 (cyc)]] w fun e w' => e = .returned (.tuple #[.agg #[.int .i64 (16), .int .i64 (j), .int .i64 (c), .int .i64 (m), .int .u64 (u), .int .u64 (p), .bool (found), .int .i64 (tail), .int .i64 (cyc)], .bool false, .bool true]) ∧ (RAt w' r rd cap ext (s.doIt (aLoad (s.c.inP m))) ∧ Fr [r, rd] w w') := by
  have B := RB.start H [.int .i64 (10), .int .i64 (j), .int .i64 (c), .int .i64 (m), .int .u64 (a), .int .u64 (p), .bool (found), .int .i64 (tail), .int .i64 (cyc)]
  have n0 := B.l1
  have n1 := B.l3
  have hrr := H.right
  subst k0
  have hmw : IntKind.i64.wrap (m + 1) = m + 1 := w64 _ (by omega)

  clear H
  simp only [zCol] at B
  replace kX := B.x.cell
  replace fX := B.x.free
  replace kR := B.z.cell
  replace fR := B.z.free
  replace kH := B.H.cellsC (c := s.c) rfl
  go_enter Try.func70, Try.ntmps70
  go_wp2_with (first | (go_at_call 136; refine (rIn_any B.H _).mono ?_; rintro e w2 ⟨rfl, hF2⟩; (replace B := B.kept0 hF2); (replace kX := B.x.cell); (replace fX := B.x.free); (replace kR := B.z.cell); (replace fR := B.z.free); (replace kH := B.H.cellsC (c := s.c) rfl)) | (go_at_call 132; refine (load_ru hu B.H).mono ?_; rintro e w2 ⟨rfl, HH, hF2⟩; (replace B := B.hand HH hF2); clear HH; (replace kX := B.x.cell); (replace fX := B.x.free); (replace kR := B.z.cell); (replace fR := B.z.free); (replace kH := B.H.cellsC (c := s.c) rfl)))
  replace B := B.set 4 (.int .u64 u)
  replace B := B.set 0 (.int .i64 16)
  refine bodyPost_ret (v := .tuple #[.agg #[.int .i64 (16), .int .i64 (j), .int .i64 (c), .int .i64 (m), .int .u64 (u), .int .u64 (p), .bool (found), .int .i64 (tail), .int .i64 (cyc)], .bool false, .bool true]) (by simp [results, Try.results70, go_sem, kX, kR]) rfl ⟨rfl, ?_⟩
  exact B.done _ _ _ _ _ _ _ _ _


set_option maxRecDepth 100000 in
set_option maxHeartbeats 4000000 in
theorem rba16s {w : World} {r rd cap : Nat} {ext : List Value} {s : HS} (H : RAt w r rd cap ext s) (j c m a p tail cyc : Int) (found : Bool) (hm : -1000000 ≤ m ∧ m ≤ 1000000) (u k : Int) (hu : wAt s.ws (s.c.inP m) = u) (hk : u % 4 = k) (hu0 : 0 ≤ u) (hu1 : u < 18446744073709551616) (ha : (u == a) = true) :
    Calls Try.prog 70 #[.pointer (some ⟨r, 0, none⟩), .agg #[.int .i64 (16), .int .i64 (j), .int .i64 (c), .int .i64 (m), .int .u64 (a), .int .u64 (p), .bool (found), .int .i64 (tail), .int .i64 (cyc)]] w fun e w' => e = .returned (.tuple #[.agg #[.int .i64 (16), .int .i64 (j), .int .i64 (c), .int .i64 (m), .int .u64 (u), .int .u64 (p), .bool (found), .int .i64 (tail), .int .i64 (cyc)], .bool false, .bool true]) ∧ (RAt w' r rd cap ext (s.doIt (aLoad (s.c.inP m))) ∧ Fr [r, rd] w w') := by
  have B := RB.start H [.int .i64 (16), .int .i64 (j), .int .i64 (c), .int .i64 (m), .int .u64 (a), .int .u64 (p), .bool (found), .int .i64 (tail), .int .i64 (cyc)]
  have n0 := B.l1
  have n1 := B.l3
  have hrr := H.right
  have hmw : IntKind.i64.wrap (m + 1) = m + 1 := w64 _ (by omega)

  clear H
  simp only [zCol] at B
  replace kX := B.x.cell
  replace fX := B.x.free
  replace kR := B.z.cell
  replace fR := B.z.free
  replace kH := B.H.cellsC (c := s.c) rfl
  go_enter Try.func70, Try.ntmps70
  go_wp2_with (first | (go_at_call 136; refine (rIn_any B.H _).mono ?_; rintro e w2 ⟨rfl, hF2⟩; (replace B := B.kept0 hF2); (replace kX := B.x.cell); (replace fX := B.x.free); (replace kR := B.z.cell); (replace fR := B.z.free); (replace kH := B.H.cellsC (c := s.c) rfl)) | (go_at_call 132; refine (load_ru hu B.H).mono ?_; rintro e w2 ⟨rfl, HH, hF2⟩; (replace B := B.hand HH hF2); clear HH; (replace kX := B.x.cell); (replace fX := B.x.free); (replace kR := B.z.cell); (replace fR := B.z.free); (replace kH := B.H.cellsC (c := s.c) rfl)))
  replace B := B.set 4 (.int .u64 u)
  replace B := B.set 0 (.int .i64 16)
  refine bodyPost_ret (v := .tuple #[.agg #[.int .i64 (16), .int .i64 (j), .int .i64 (c), .int .i64 (m), .int .u64 (u), .int .u64 (p), .bool (found), .int .i64 (tail), .int .i64 (cyc)], .bool false, .bool true]) (by simp [results, Try.results70, go_sem, kX, kR]) rfl ⟨rfl, ?_⟩
  exact B.done _ _ _ _ _ _ _ _ _


set_option maxRecDepth 100000 in
set_option maxHeartbeats 4000000 in
theorem rba16w {w : World} {r rd cap : Nat} {ext : List Value} {s : HS} (H : RAt w r rd cap ext s) (j c m a p tail cyc : Int) (found : Bool) (hm : -1000000 ≤ m ∧ m ≤ 1000000) (u k : Int) (hu : wAt s.ws (s.c.inP m) = u) (hk : u % 4 = k) (hu0 : 0 ≤ u) (hu1 : u < 18446744073709551616) (ha : (u == a) = false) (k3 : (k == 3) = true) :
    Calls Try.prog 70 #[.pointer (some ⟨r, 0, none⟩), .agg #[.int .i64 (16), .int .i64 (j), .int .i64 (c), .int .i64 (m), .int .u64 (a), .int .u64 (p), .bool (found), .int .i64 (tail), .int .i64 (cyc)]] w fun e w' => e = .returned (.tuple #[.agg #[.int .i64 (16), .int .i64 (j), .int .i64 (c), .int .i64 (m), .int .u64 (u), .int .u64 (p), .bool (found), .int .i64 (tail), .int .i64 (cyc)], .bool false, .bool true]) ∧ (RAt w' r rd cap ext (s.doIt (aLoad (s.c.inP m))) ∧ Fr [r, rd] w w') := by
  have B := RB.start H [.int .i64 (16), .int .i64 (j), .int .i64 (c), .int .i64 (m), .int .u64 (a), .int .u64 (p), .bool (found), .int .i64 (tail), .int .i64 (cyc)]
  have n0 := B.l1
  have n1 := B.l3
  have hrr := H.right
  have hmw : IntKind.i64.wrap (m + 1) = m + 1 := w64 _ (by omega)

  clear H
  simp only [zCol] at B
  replace kX := B.x.cell
  replace fX := B.x.free
  replace kR := B.z.cell
  replace fR := B.z.free
  replace kH := B.H.cellsC (c := s.c) rfl
  go_enter Try.func70, Try.ntmps70
  go_wp2_with (first | (go_at_call 136; refine (rIn_any B.H _).mono ?_; rintro e w2 ⟨rfl, hF2⟩; (replace B := B.kept0 hF2); (replace kX := B.x.cell); (replace fX := B.x.free); (replace kR := B.z.cell); (replace fR := B.z.free); (replace kH := B.H.cellsC (c := s.c) rfl)) | (go_at_call 132; refine (load_ru hu B.H).mono ?_; rintro e w2 ⟨rfl, HH, hF2⟩; (replace B := B.hand HH hF2); clear HH; (replace kX := B.x.cell); (replace fX := B.x.free); (replace kR := B.z.cell); (replace fR := B.z.free); (replace kH := B.H.cellsC (c := s.c) rfl)))
  replace B := B.set 4 (.int .u64 u)
  replace B := B.set 0 (.int .i64 16)
  refine bodyPost_ret (v := .tuple #[.agg #[.int .i64 (16), .int .i64 (j), .int .i64 (c), .int .i64 (m), .int .u64 (u), .int .u64 (p), .bool (found), .int .i64 (tail), .int .i64 (cyc)], .bool false, .bool true]) (by simp [results, Try.results70, go_sem, kX, kR]) rfl ⟨rfl, ?_⟩
  exact B.done _ _ _ _ _ _ _ _ _


set_option maxRecDepth 100000 in
set_option maxHeartbeats 4000000 in
theorem rba16m {w : World} {r rd cap : Nat} {ext : List Value} {s : HS} (H : RAt w r rd cap ext s) (j c m a p tail cyc : Int) (found : Bool) (hm : -1000000 ≤ m ∧ m ≤ 1000000) (u k : Int) (hu : wAt s.ws (s.c.inP m) = u) (hk : u % 4 = k) (hu0 : 0 ≤ u) (hu1 : u < 18446744073709551616) (ha : (u == a) = false) (k3 : (k == 3) = false) (hl : m + 1 < s.c.muts) :
    Calls Try.prog 70 #[.pointer (some ⟨r, 0, none⟩), .agg #[.int .i64 (16), .int .i64 (j), .int .i64 (c), .int .i64 (m), .int .u64 (a), .int .u64 (p), .bool (found), .int .i64 (tail), .int .i64 (cyc)]] w fun e w' => e = .returned (.tuple #[.agg #[.int .i64 (10), .int .i64 (j), .int .i64 (c), .int .i64 (m + 1), .int .u64 (0), .int .u64 (p), .bool (found), .int .i64 (tail), .int .i64 (cyc)], .bool false, .bool true]) ∧ (RAt w' r rd cap ext (s.doIt (aLoad (s.c.inP m))) ∧ Fr [r, rd] w w') := by
  have B := RB.start H [.int .i64 (16), .int .i64 (j), .int .i64 (c), .int .i64 (m), .int .u64 (a), .int .u64 (p), .bool (found), .int .i64 (tail), .int .i64 (cyc)]
  have n0 := B.l1
  have n1 := B.l3
  have hrr := H.right
  have hmw : IntKind.i64.wrap (m + 1) = m + 1 := w64 _ (by omega)

  clear H
  simp only [zCol] at B
  replace kX := B.x.cell
  replace fX := B.x.free
  replace kR := B.z.cell
  replace fR := B.z.free
  replace kH := B.H.cellsC (c := s.c) rfl
  go_enter Try.func70, Try.ntmps70
  go_upto_region 14 with (first | (go_at_call 136; refine (rIn_any B.H _).mono ?_; rintro e w2 ⟨rfl, hF2⟩; (replace B := B.kept0 hF2); (replace kX := B.x.cell); (replace fX := B.x.free); (replace kR := B.z.cell); (replace fR := B.z.free); (replace kH := B.H.cellsC (c := s.c) rfl)) | (go_at_call 132; refine (load_ru hu B.H).mono ?_; rintro e w2 ⟨rfl, HH, hF2⟩; (replace B := B.hand HH hF2); clear HH; (replace kX := B.x.cell); (replace fX := B.x.free); (replace kR := B.z.cell); (replace fR := B.z.free); (replace kH := B.H.cellsC (c := s.c) rfl)))
  replace B := B.set 4 (.int .u64 0)
  replace B := B.set 0 (.int .i64 10)
  replace B := B.set 3 (.int .i64 (m + 1))
  simp only [List.set_cons_zero, List.set_cons_succ] at B
  replace B := B.drew
  refine wp_region_held_drew (S := (fun (W : World) => W.cell? ⟨w.heap.size, 3, none⟩ = some (.int .i64 (m + 1)) ∧ W.cell? ⟨r, 0, none⟩ = some (.int .i64 s.c.cells) ∧ W.cell? ⟨r, 1, none⟩ = some (.int .i64 s.c.muts) ∧ W.cell? ⟨r, 2, none⟩ = some (.int .i64 s.c.regs) ∧ W.cell? ⟨r, 3, none⟩ = some (.int .i64 s.c.globs))) (by kernel_rfl) (by exact ⟨B.x.cell 3, B.H.blk.cell 0, B.H.blk.cell 1, B.H.blk.cell 2, B.H.blk.cell 3⟩) (fun hHeld => ?_)
  refine wpAnyH_take (i := 0) (v := ?_) rfl (by kernel_rfl) (by kernel_rfl) (by kernel_rfl) (fun _ _ _ h => h) (Or.inl ⟨by rfl, ?_⟩) (by assumption) ?_
  rotate_left
  · intro w hSw; (try dsimp only at hSw); go_simp; first | done | with_reducible rfl
  try simp only [Act.put, List.getElem_toArray, List.getElem_cons_succ, List.getElem_cons_zero, List.setIfInBounds_toArray, List.set_cons_zero, List.set_cons_succ]
  refine wpAnyH_take (i := 1) (v := ?_) rfl (by kernel_rfl) (by kernel_rfl) (by kernel_rfl) (fun _ _ _ h => h) (Or.inl ⟨by rfl, ?_⟩) (by assumption) ?_
  rotate_left
  · intro w hSw; (try dsimp only at hSw); go_simp; first | done | with_reducible rfl
  try simp only [Act.put, List.getElem_toArray, List.getElem_cons_succ, List.getElem_cons_zero, List.setIfInBounds_toArray, List.set_cons_zero, List.set_cons_succ]
  refine wpAnyH_take (i := 2) (v := ?_) rfl (by kernel_rfl) (by kernel_rfl) (by kernel_rfl) (fun _ _ _ h => h) (Or.inl ⟨by rfl, ?_⟩) (by assumption) ?_
  rotate_left
  · intro w hSw; (try dsimp only at hSw); go_simp; first | done | with_reducible rfl
  try simp only [Act.put, List.getElem_toArray, List.getElem_cons_succ, List.getElem_cons_zero, List.setIfInBounds_toArray, List.set_cons_zero, List.set_cons_succ]
  refine wpAnyH_take (i := 3) (v := ?_) rfl (by kernel_rfl) (by kernel_rfl) (by kernel_rfl) (fun _ _ _ h => h) (Or.inl ⟨by rfl, ?_⟩) (by assumption) ?_
  rotate_left
  · intro w hSw; (try dsimp only at hSw); go_simp; first | done | with_reducible rfl
  try simp only [Act.put, List.getElem_toArray, List.getElem_cons_succ, List.getElem_cons_zero, List.setIfInBounds_toArray, List.set_cons_zero, List.set_cons_succ]
  refine wpAnyH_take (i := 4) (v := ?_) rfl (by kernel_rfl) (by kernel_rfl) (by kernel_rfl) (fun _ _ _ h => h) (Or.inl ⟨by rfl, ?_⟩) (by assumption) ?_
  rotate_left
  · intro w hSw; (try dsimp only at hSw); go_simp; first | done | with_reducible rfl
  try simp only [Act.put, List.getElem_toArray, List.getElem_cons_succ, List.getElem_cons_zero, List.setIfInBounds_toArray, List.set_cons_zero, List.set_cons_succ]
  refine wpAnyH_take (i := 5) (v := ?_) rfl (by kernel_rfl) (by kernel_rfl) (by kernel_rfl) (fun _ _ _ h => h) (Or.inl ⟨by rfl, ?_⟩) (by assumption) ?_
  rotate_left
  · intro w hSw; (try dsimp only at hSw); go_simp; first | done | with_reducible rfl
  try simp only [Act.put, List.getElem_toArray, List.getElem_cons_succ, List.getElem_cons_zero, List.setIfInBounds_toArray, List.set_cons_zero, List.set_cons_succ]
  refine wpAnyH_take (i := 6) (v := ?_) rfl (by kernel_rfl) (by kernel_rfl) (by kernel_rfl) (fun _ _ _ h => h) (Or.inl ⟨by rfl, ?_⟩) (by assumption) ?_
  rotate_left
  · intro w hSw; (try dsimp only at hSw); go_simp; first | done | with_reducible rfl
  try simp only [Act.put, List.getElem_toArray, List.getElem_cons_succ, List.getElem_cons_zero, List.setIfInBounds_toArray, List.set_cons_zero, List.set_cons_succ]
  refine wpAnyH_take (i := 7) (v := ?_) rfl (by kernel_rfl) (by kernel_rfl) (by kernel_rfl) (fun _ _ _ h => h) (Or.inl ⟨by rfl, ?_⟩) (by assumption) ?_
  rotate_left
  · intro w hSw; (try dsimp only at hSw); go_simp; first | done | with_reducible rfl
  try simp only [Act.put, List.getElem_toArray, List.getElem_cons_succ, List.getElem_cons_zero, List.setIfInBounds_toArray, List.set_cons_zero, List.set_cons_succ]
  refine wpAnyH_done (by kernel_rfl) ?_ _
  clear hHeld
  obtain ⟨W9, hW9, B9⟩ : ∃ W9, W9 = _ ∧ RB w r rd cap ext _ _ W9 := ⟨_, rfl, B⟩
  rw [← hW9]
  clear B hW9
  have B := B9
  clear B9
  replace kX := B.x.cell
  replace fX := B.x.free
  replace kR := B.z.cell
  replace fR := B.z.free
  replace kH := B.H.cellsC (c := s.c) rfl
  go_wp2_with fail
  refine bodyPost_ret (v := .tuple #[.agg #[.int .i64 (10), .int .i64 (j), .int .i64 (c), .int .i64 (m + 1), .int .u64 (0), .int .u64 (p), .bool (found), .int .i64 (tail), .int .i64 (cyc)], .bool false, .bool true]) (by simp [results, Try.results70, go_sem, kX, kR]) rfl ⟨rfl, ?_⟩
  exact B.done _ _ _ _ _ _ _ _ _


set_option maxRecDepth 100000 in
set_option maxHeartbeats 4000000 in
theorem rba16o {w : World} {r rd cap : Nat} {ext : List Value} {s : HS} (H : RAt w r rd cap ext s) (j c m a p tail cyc : Int) (found : Bool) (hm : -1000000 ≤ m ∧ m ≤ 1000000) (u k : Int) (hu : wAt s.ws (s.c.inP m) = u) (hk : u % 4 = k) (hu0 : 0 ≤ u) (hu1 : u < 18446744073709551616) (ha : (u == a) = false) (k3 : (k == 3) = false) (hl : s.c.muts ≤ m + 1) :
    Calls Try.prog 70 #[.pointer (some ⟨r, 0, none⟩), .agg #[.int .i64 (16), .int .i64 (j), .int .i64 (c), .int .i64 (m), .int .u64 (a), .int .u64 (p), .bool (found), .int .i64 (tail), .int .i64 (cyc)]] w fun e w' => e = .returned (.tuple #[.agg #[.int .i64 (11), .int .i64 (j), .int .i64 (c), .int .i64 (0), .int .u64 (0), .int .u64 (p), .bool (found), .int .i64 (tail), .int .i64 (cyc)], .bool false, .bool true]) ∧ (RAt w' r rd cap ext (s.doIt (aLoad (s.c.inP m))) ∧ Fr [r, rd] w w') := by
  have B := RB.start H [.int .i64 (16), .int .i64 (j), .int .i64 (c), .int .i64 (m), .int .u64 (a), .int .u64 (p), .bool (found), .int .i64 (tail), .int .i64 (cyc)]
  have n0 := B.l1
  have n1 := B.l3
  have hrr := H.right
  have hmw : IntKind.i64.wrap (m + 1) = m + 1 := w64 _ (by omega)

  clear H
  simp only [zCol] at B
  replace kX := B.x.cell
  replace fX := B.x.free
  replace kR := B.z.cell
  replace fR := B.z.free
  replace kH := B.H.cellsC (c := s.c) rfl
  go_enter Try.func70, Try.ntmps70
  go_upto_region 14 with (first | (go_at_call 136; refine (rIn_any B.H _).mono ?_; rintro e w2 ⟨rfl, hF2⟩; (replace B := B.kept0 hF2); (replace kX := B.x.cell); (replace fX := B.x.free); (replace kR := B.z.cell); (replace fR := B.z.free); (replace kH := B.H.cellsC (c := s.c) rfl)) | (go_at_call 132; refine (load_ru hu B.H).mono ?_; rintro e w2 ⟨rfl, HH, hF2⟩; (replace B := B.hand HH hF2); clear HH; (replace kX := B.x.cell); (replace fX := B.x.free); (replace kR := B.z.cell); (replace fR := B.z.free); (replace kH := B.H.cellsC (c := s.c) rfl)))
  replace B := B.set 4 (.int .u64 0)
  replace B := B.set 0 (.int .i64 10)
  replace B := B.set 3 (.int .i64 (m + 1))
  simp only [List.set_cons_zero, List.set_cons_succ] at B
  replace B := B.drew
  refine wp_region_held_drew (S := (fun (W : World) => W.cell? ⟨w.heap.size, 3, none⟩ = some (.int .i64 (m + 1)) ∧ W.cell? ⟨r, 0, none⟩ = some (.int .i64 s.c.cells) ∧ W.cell? ⟨r, 1, none⟩ = some (.int .i64 s.c.muts) ∧ W.cell? ⟨r, 2, none⟩ = some (.int .i64 s.c.regs) ∧ W.cell? ⟨r, 3, none⟩ = some (.int .i64 s.c.globs))) (by kernel_rfl) (by exact ⟨B.x.cell 3, B.H.blk.cell 0, B.H.blk.cell 1, B.H.blk.cell 2, B.H.blk.cell 3⟩) (fun hHeld => ?_)
  refine wpAnyH_take (i := 0) (v := ?_) rfl (by kernel_rfl) (by kernel_rfl) (by kernel_rfl) (fun _ _ _ h => h) (Or.inl ⟨by rfl, ?_⟩) (by assumption) ?_
  rotate_left
  · intro w hSw; (try dsimp only at hSw); go_simp; first | done | with_reducible rfl
  try simp only [Act.put, List.getElem_toArray, List.getElem_cons_succ, List.getElem_cons_zero, List.setIfInBounds_toArray, List.set_cons_zero, List.set_cons_succ]
  refine wpAnyH_take (i := 1) (v := ?_) rfl (by kernel_rfl) (by kernel_rfl) (by kernel_rfl) (fun _ _ _ h => h) (Or.inl ⟨by rfl, ?_⟩) (by assumption) ?_
  rotate_left
  · intro w hSw; (try dsimp only at hSw); go_simp; first | done | with_reducible rfl
  try simp only [Act.put, List.getElem_toArray, List.getElem_cons_succ, List.getElem_cons_zero, List.setIfInBounds_toArray, List.set_cons_zero, List.set_cons_succ]
  refine wpAnyH_take (i := 2) (v := ?_) rfl (by kernel_rfl) (by kernel_rfl) (by kernel_rfl) (fun _ _ _ h => h) (Or.inl ⟨by rfl, ?_⟩) (by assumption) ?_
  rotate_left
  · intro w hSw; (try dsimp only at hSw); go_simp; first | done | with_reducible rfl
  try simp only [Act.put, List.getElem_toArray, List.getElem_cons_succ, List.getElem_cons_zero, List.setIfInBounds_toArray, List.set_cons_zero, List.set_cons_succ]
  refine wpAnyH_take (i := 3) (v := ?_) rfl (by kernel_rfl) (by kernel_rfl) (by kernel_rfl) (fun _ _ _ h => h) (Or.inl ⟨by rfl, ?_⟩) (by assumption) ?_
  rotate_left
  · intro w hSw; (try dsimp only at hSw); go_simp; first | done | with_reducible rfl
  try simp only [Act.put, List.getElem_toArray, List.getElem_cons_succ, List.getElem_cons_zero, List.setIfInBounds_toArray, List.set_cons_zero, List.set_cons_succ]
  refine wpAnyH_take (i := 4) (v := ?_) rfl (by kernel_rfl) (by kernel_rfl) (by kernel_rfl) (fun _ _ _ h => h) (Or.inl ⟨by rfl, ?_⟩) (by assumption) ?_
  rotate_left
  · intro w hSw; (try dsimp only at hSw); go_simp; first | done | with_reducible rfl
  try simp only [Act.put, List.getElem_toArray, List.getElem_cons_succ, List.getElem_cons_zero, List.setIfInBounds_toArray, List.set_cons_zero, List.set_cons_succ]
  refine wpAnyH_take (i := 5) (v := ?_) rfl (by kernel_rfl) (by kernel_rfl) (by kernel_rfl) (fun _ _ _ h => h) (Or.inl ⟨by rfl, ?_⟩) (by assumption) ?_
  rotate_left
  · intro w hSw; (try dsimp only at hSw); go_simp; first | done | with_reducible rfl
  try simp only [Act.put, List.getElem_toArray, List.getElem_cons_succ, List.getElem_cons_zero, List.setIfInBounds_toArray, List.set_cons_zero, List.set_cons_succ]
  refine wpAnyH_take (i := 6) (v := ?_) rfl (by kernel_rfl) (by kernel_rfl) (by kernel_rfl) (fun _ _ _ h => h) (Or.inl ⟨by rfl, ?_⟩) (by assumption) ?_
  rotate_left
  · intro w hSw; (try dsimp only at hSw); go_simp; first | done | with_reducible rfl
  try simp only [Act.put, List.getElem_toArray, List.getElem_cons_succ, List.getElem_cons_zero, List.setIfInBounds_toArray, List.set_cons_zero, List.set_cons_succ]
  refine wpAnyH_take (i := 7) (v := ?_) rfl (by kernel_rfl) (by kernel_rfl) (by kernel_rfl) (fun _ _ _ h => h) (Or.inl ⟨by rfl, ?_⟩) (by assumption) ?_
  rotate_left
  · intro w hSw; (try dsimp only at hSw); go_simp; first | done | with_reducible rfl
  try simp only [Act.put, List.getElem_toArray, List.getElem_cons_succ, List.getElem_cons_zero, List.setIfInBounds_toArray, List.set_cons_zero, List.set_cons_succ]
  refine wpAnyH_done (by kernel_rfl) ?_ _
  clear hHeld
  obtain ⟨W9, hW9, B9⟩ : ∃ W9, W9 = _ ∧ RB w r rd cap ext _ _ W9 := ⟨_, rfl, B⟩
  rw [← hW9]
  clear B hW9
  have B := B9
  clear B9
  replace kX := B.x.cell
  replace fX := B.x.free
  replace kR := B.z.cell
  replace fR := B.z.free
  replace kH := B.H.cellsC (c := s.c) rfl
  go_wp2_with fail
  replace B := B.set 3 (.int .i64 0)
  replace B := B.set 0 (.int .i64 11)
  refine bodyPost_ret (v := .tuple #[.agg #[.int .i64 (11), .int .i64 (j), .int .i64 (c), .int .i64 (0), .int .u64 (0), .int .u64 (p), .bool (found), .int .i64 (tail), .int .i64 (cyc)], .bool false, .bool true]) (by simp [results, Try.results70, go_sem, kX, kR]) rfl ⟨rfl, ?_⟩
  exact B.done _ _ _ _ _ _ _ _ _


set_option maxRecDepth 100000 in
set_option maxHeartbeats 4000000 in
theorem rba120m {w : World} {r rd cap : Nat} {ext : List Value} {s : HS} (H : RAt w r rd cap ext s) (j c m a p tail cyc : Int) (found : Bool) (hm : -1000000 ≤ m ∧ m ≤ 1000000) (u k : Int) (hu : wAt s.ws (s.c.inP m) = u) (hk : u % 4 = k) (hu0 : 0 ≤ u) (hu1 : u < 18446744073709551616) (k0 : k = 0) (hl : m + 1 < s.c.muts) :
    Calls Try.prog 70 #[.pointer (some ⟨r, 0, none⟩), .agg #[.int .i64 (12), .int .i64 (j), .int .i64 (c), .int .i64 (m), .int .u64 (a), .int .u64 (p), .bool (found), .int .i64 (tail), .int .i64 (cyc)]] w fun e w' => e = .returned (.tuple #[.agg #[.int .i64 (12), .int .i64 (j), .int .i64 (c), .int .i64 (m + 1), .int .u64 (a), .int .u64 (p), .bool (found), .int .i64 (tail), .int .i64 (cyc)], .bool false, .bool true]) ∧ (RAt w' r rd cap ext (s.doIt (aLoad (s.c.inP m))) ∧ Fr [r, rd] w w') := by
  have B := RB.start H [.int .i64 (12), .int .i64 (j), .int .i64 (c), .int .i64 (m), .int .u64 (a), .int .u64 (p), .bool (found), .int .i64 (tail), .int .i64 (cyc)]
  have n0 := B.l1
  have n1 := B.l3
  have hrr := H.right
  subst k0
  have hmw : IntKind.i64.wrap (m + 1) = m + 1 := w64 _ (by omega)

  clear H
  simp only [zCol] at B
  replace kX := B.x.cell
  replace fX := B.x.free
  replace kR := B.z.cell
  replace fR := B.z.free
  replace kH := B.H.cellsC (c := s.c) rfl
  go_enter Try.func70, Try.ntmps70
  go_upto_region 14 with (first | (go_at_call 136; refine (rIn_any B.H _).mono ?_; rintro e w2 ⟨rfl, hF2⟩; (replace B := B.kept0 hF2); (replace kX := B.x.cell); (replace fX := B.x.free); (replace kR := B.z.cell); (replace fR := B.z.free); (replace kH := B.H.cellsC (c := s.c) rfl)) | (go_at_call 132; refine (load_ru hu B.H).mono ?_; rintro e w2 ⟨rfl, HH, hF2⟩; (replace B := B.hand HH hF2); clear HH; (replace kX := B.x.cell); (replace fX := B.x.free); (replace kR := B.z.cell); (replace fR := B.z.free); (replace kH := B.H.cellsC (c := s.c) rfl)))
  replace B := B.set 3 (.int .i64 (m + 1))
  simp only [List.set_cons_zero, List.set_cons_succ] at B
  replace B := B.drew
  refine wp_region_held_drew (S := (fun (W : World) => W.cell? ⟨w.heap.size, 3, none⟩ = some (.int .i64 (m + 1)) ∧ W.cell? ⟨r, 0, none⟩ = some (.int .i64 s.c.cells) ∧ W.cell? ⟨r, 1, none⟩ = some (.int .i64 s.c.muts) ∧ W.cell? ⟨r, 2, none⟩ = some (.int .i64 s.c.regs) ∧ W.cell? ⟨r, 3, none⟩ = some (.int .i64 s.c.globs))) (by kernel_rfl) (by exact ⟨B.x.cell 3, B.H.blk.cell 0, B.H.blk.cell 1, B.H.blk.cell 2, B.H.blk.cell 3⟩) (fun hHeld => ?_)
  refine wpAnyH_take (i := 0) (v := ?_) rfl (by kernel_rfl) (by kernel_rfl) (by kernel_rfl) (fun _ _ _ h => h) (Or.inl ⟨by rfl, ?_⟩) (by assumption) ?_
  rotate_left
  · intro w hSw; (try dsimp only at hSw); go_simp; first | done | with_reducible rfl
  try simp only [Act.put, List.getElem_toArray, List.getElem_cons_succ, List.getElem_cons_zero, List.setIfInBounds_toArray, List.set_cons_zero, List.set_cons_succ]
  refine wpAnyH_take (i := 1) (v := ?_) rfl (by kernel_rfl) (by kernel_rfl) (by kernel_rfl) (fun _ _ _ h => h) (Or.inl ⟨by rfl, ?_⟩) (by assumption) ?_
  rotate_left
  · intro w hSw; (try dsimp only at hSw); go_simp; first | done | with_reducible rfl
  try simp only [Act.put, List.getElem_toArray, List.getElem_cons_succ, List.getElem_cons_zero, List.setIfInBounds_toArray, List.set_cons_zero, List.set_cons_succ]
  refine wpAnyH_take (i := 2) (v := ?_) rfl (by kernel_rfl) (by kernel_rfl) (by kernel_rfl) (fun _ _ _ h => h) (Or.inl ⟨by rfl, ?_⟩) (by assumption) ?_
  rotate_left
  · intro w hSw; (try dsimp only at hSw); go_simp; first | done | with_reducible rfl
  try simp only [Act.put, List.getElem_toArray, List.getElem_cons_succ, List.getElem_cons_zero, List.setIfInBounds_toArray, List.set_cons_zero, List.set_cons_succ]
  refine wpAnyH_take (i := 3) (v := ?_) rfl (by kernel_rfl) (by kernel_rfl) (by kernel_rfl) (fun _ _ _ h => h) (Or.inl ⟨by rfl, ?_⟩) (by assumption) ?_
  rotate_left
  · intro w hSw; (try dsimp only at hSw); go_simp; first | done | with_reducible rfl
  try simp only [Act.put, List.getElem_toArray, List.getElem_cons_succ, List.getElem_cons_zero, List.setIfInBounds_toArray, List.set_cons_zero, List.set_cons_succ]
  refine wpAnyH_take (i := 4) (v := ?_) rfl (by kernel_rfl) (by kernel_rfl) (by kernel_rfl) (fun _ _ _ h => h) (Or.inl ⟨by rfl, ?_⟩) (by assumption) ?_
  rotate_left
  · intro w hSw; (try dsimp only at hSw); go_simp; first | done | with_reducible rfl
  try simp only [Act.put, List.getElem_toArray, List.getElem_cons_succ, List.getElem_cons_zero, List.setIfInBounds_toArray, List.set_cons_zero, List.set_cons_succ]
  refine wpAnyH_take (i := 5) (v := ?_) rfl (by kernel_rfl) (by kernel_rfl) (by kernel_rfl) (fun _ _ _ h => h) (Or.inl ⟨by rfl, ?_⟩) (by assumption) ?_
  rotate_left
  · intro w hSw; (try dsimp only at hSw); go_simp; first | done | with_reducible rfl
  try simp only [Act.put, List.getElem_toArray, List.getElem_cons_succ, List.getElem_cons_zero, List.setIfInBounds_toArray, List.set_cons_zero, List.set_cons_succ]
  refine wpAnyH_take (i := 6) (v := ?_) rfl (by kernel_rfl) (by kernel_rfl) (by kernel_rfl) (fun _ _ _ h => h) (Or.inl ⟨by rfl, ?_⟩) (by assumption) ?_
  rotate_left
  · intro w hSw; (try dsimp only at hSw); go_simp; first | done | with_reducible rfl
  try simp only [Act.put, List.getElem_toArray, List.getElem_cons_succ, List.getElem_cons_zero, List.setIfInBounds_toArray, List.set_cons_zero, List.set_cons_succ]
  refine wpAnyH_take (i := 7) (v := ?_) rfl (by kernel_rfl) (by kernel_rfl) (by kernel_rfl) (fun _ _ _ h => h) (Or.inl ⟨by rfl, ?_⟩) (by assumption) ?_
  rotate_left
  · intro w hSw; (try dsimp only at hSw); go_simp; first | done | with_reducible rfl
  try simp only [Act.put, List.getElem_toArray, List.getElem_cons_succ, List.getElem_cons_zero, List.setIfInBounds_toArray, List.set_cons_zero, List.set_cons_succ]
  refine wpAnyH_done (by kernel_rfl) ?_ _
  clear hHeld
  obtain ⟨W9, hW9, B9⟩ : ∃ W9, W9 = _ ∧ RB w r rd cap ext _ _ W9 := ⟨_, rfl, B⟩
  rw [← hW9]
  clear B hW9
  have B := B9
  clear B9
  replace kX := B.x.cell
  replace fX := B.x.free
  replace kR := B.z.cell
  replace fR := B.z.free
  replace kH := B.H.cellsC (c := s.c) rfl
  go_wp2_with fail
  refine bodyPost_ret (v := .tuple #[.agg #[.int .i64 (12), .int .i64 (j), .int .i64 (c), .int .i64 (m + 1), .int .u64 (a), .int .u64 (p), .bool (found), .int .i64 (tail), .int .i64 (cyc)], .bool false, .bool true]) (by simp [results, Try.results70, go_sem, kX, kR]) rfl ⟨rfl, ?_⟩
  exact B.done _ _ _ _ _ _ _ _ _


set_option maxRecDepth 100000 in
set_option maxHeartbeats 4000000 in
theorem rba120o {w : World} {r rd cap : Nat} {ext : List Value} {s : HS} (H : RAt w r rd cap ext s) (j c m a p tail cyc : Int) (found : Bool) (hm : -1000000 ≤ m ∧ m ≤ 1000000) (u k : Int) (hu : wAt s.ws (s.c.inP m) = u) (hk : u % 4 = k) (hu0 : 0 ≤ u) (hu1 : u < 18446744073709551616) (k0 : k = 0) (hl : s.c.muts ≤ m + 1) :
    Calls Try.prog 70 #[.pointer (some ⟨r, 0, none⟩), .agg #[.int .i64 (12), .int .i64 (j), .int .i64 (c), .int .i64 (m), .int .u64 (a), .int .u64 (p), .bool (found), .int .i64 (tail), .int .i64 (cyc)]] w fun e w' => e = .returned (.tuple #[.agg #[.int .i64 (13), .int .i64 (j), .int .i64 (c), .int .i64 (0), .int .u64 (a), .int .u64 (p), .bool (found), .int .i64 (tail), .int .i64 (cyc)], .bool false, .bool true]) ∧ (RAt w' r rd cap ext (s.doIt (aLoad (s.c.inP m))) ∧ Fr [r, rd] w w') := by
  have B := RB.start H [.int .i64 (12), .int .i64 (j), .int .i64 (c), .int .i64 (m), .int .u64 (a), .int .u64 (p), .bool (found), .int .i64 (tail), .int .i64 (cyc)]
  have n0 := B.l1
  have n1 := B.l3
  have hrr := H.right
  subst k0
  have hmw : IntKind.i64.wrap (m + 1) = m + 1 := w64 _ (by omega)

  clear H
  simp only [zCol] at B
  replace kX := B.x.cell
  replace fX := B.x.free
  replace kR := B.z.cell
  replace fR := B.z.free
  replace kH := B.H.cellsC (c := s.c) rfl
  go_enter Try.func70, Try.ntmps70
  go_upto_region 14 with (first | (go_at_call 136; refine (rIn_any B.H _).mono ?_; rintro e w2 ⟨rfl, hF2⟩; (replace B := B.kept0 hF2); (replace kX := B.x.cell); (replace fX := B.x.free); (replace kR := B.z.cell); (replace fR := B.z.free); (replace kH := B.H.cellsC (c := s.c) rfl)) | (go_at_call 132; refine (load_ru hu B.H).mono ?_; rintro e w2 ⟨rfl, HH, hF2⟩; (replace B := B.hand HH hF2); clear HH; (replace kX := B.x.cell); (replace fX := B.x.free); (replace kR := B.z.cell); (replace fR := B.z.free); (replace kH := B.H.cellsC (c := s.c) rfl)))
  replace B := B.set 3 (.int .i64 (m + 1))
  simp only [List.set_cons_zero, List.set_cons_succ] at B
  replace B := B.drew
  refine wp_region_held_drew (S := (fun (W : World) => W.cell? ⟨w.heap.size, 3, none⟩ = some (.int .i64 (m + 1)) ∧ W.cell? ⟨r, 0, none⟩ = some (.int .i64 s.c.cells) ∧ W.cell? ⟨r, 1, none⟩ = some (.int .i64 s.c.muts) ∧ W.cell? ⟨r, 2, none⟩ = some (.int .i64 s.c.regs) ∧ W.cell? ⟨r, 3, none⟩ = some (.int .i64 s.c.globs))) (by kernel_rfl) (by exact ⟨B.x.cell 3, B.H.blk.cell 0, B.H.blk.cell 1, B.H.blk.cell 2, B.H.blk.cell 3⟩) (fun hHeld => ?_)
  refine wpAnyH_take (i := 0) (v := ?_) rfl (by kernel_rfl) (by kernel_rfl) (by kernel_rfl) (fun _ _ _ h => h) (Or.inl ⟨by rfl, ?_⟩) (by assumption) ?_
  rotate_left
  · intro w hSw; (try dsimp only at hSw); go_simp; first | done | with_reducible rfl
  try simp only [Act.put, List.getElem_toArray, List.getElem_cons_succ, List.getElem_cons_zero, List.setIfInBounds_toArray, List.set_cons_zero, List.set_cons_succ]
  refine wpAnyH_take (i := 1) (v := ?_) rfl (by kernel_rfl) (by kernel_rfl) (by kernel_rfl) (fun _ _ _ h => h) (Or.inl ⟨by rfl, ?_⟩) (by assumption) ?_
  rotate_left
  · intro w hSw; (try dsimp only at hSw); go_simp; first | done | with_reducible rfl
  try simp only [Act.put, List.getElem_toArray, List.getElem_cons_succ, List.getElem_cons_zero, List.setIfInBounds_toArray, List.set_cons_zero, List.set_cons_succ]
  refine wpAnyH_take (i := 2) (v := ?_) rfl (by kernel_rfl) (by kernel_rfl) (by kernel_rfl) (fun _ _ _ h => h) (Or.inl ⟨by rfl, ?_⟩) (by assumption) ?_
  rotate_left
  · intro w hSw; (try dsimp only at hSw); go_simp; first | done | with_reducible rfl
  try simp only [Act.put, List.getElem_toArray, List.getElem_cons_succ, List.getElem_cons_zero, List.setIfInBounds_toArray, List.set_cons_zero, List.set_cons_succ]
  refine wpAnyH_take (i := 3) (v := ?_) rfl (by kernel_rfl) (by kernel_rfl) (by kernel_rfl) (fun _ _ _ h => h) (Or.inl ⟨by rfl, ?_⟩) (by assumption) ?_
  rotate_left
  · intro w hSw; (try dsimp only at hSw); go_simp; first | done | with_reducible rfl
  try simp only [Act.put, List.getElem_toArray, List.getElem_cons_succ, List.getElem_cons_zero, List.setIfInBounds_toArray, List.set_cons_zero, List.set_cons_succ]
  refine wpAnyH_take (i := 4) (v := ?_) rfl (by kernel_rfl) (by kernel_rfl) (by kernel_rfl) (fun _ _ _ h => h) (Or.inl ⟨by rfl, ?_⟩) (by assumption) ?_
  rotate_left
  · intro w hSw; (try dsimp only at hSw); go_simp; first | done | with_reducible rfl
  try simp only [Act.put, List.getElem_toArray, List.getElem_cons_succ, List.getElem_cons_zero, List.setIfInBounds_toArray, List.set_cons_zero, List.set_cons_succ]
  refine wpAnyH_take (i := 5) (v := ?_) rfl (by kernel_rfl) (by kernel_rfl) (by kernel_rfl) (fun _ _ _ h => h) (Or.inl ⟨by rfl, ?_⟩) (by assumption) ?_
  rotate_left
  · intro w hSw; (try dsimp only at hSw); go_simp; first | done | with_reducible rfl
  try simp only [Act.put, List.getElem_toArray, List.getElem_cons_succ, List.getElem_cons_zero, List.setIfInBounds_toArray, List.set_cons_zero, List.set_cons_succ]
  refine wpAnyH_take (i := 6) (v := ?_) rfl (by kernel_rfl) (by kernel_rfl) (by kernel_rfl) (fun _ _ _ h => h) (Or.inl ⟨by rfl, ?_⟩) (by assumption) ?_
  rotate_left
  · intro w hSw; (try dsimp only at hSw); go_simp; first | done | with_reducible rfl
  try simp only [Act.put, List.getElem_toArray, List.getElem_cons_succ, List.getElem_cons_zero, List.setIfInBounds_toArray, List.set_cons_zero, List.set_cons_succ]
  refine wpAnyH_take (i := 7) (v := ?_) rfl (by kernel_rfl) (by kernel_rfl) (by kernel_rfl) (fun _ _ _ h => h) (Or.inl ⟨by rfl, ?_⟩) (by assumption) ?_
  rotate_left
  · intro w hSw; (try dsimp only at hSw); go_simp; first | done | with_reducible rfl
  try simp only [Act.put, List.getElem_toArray, List.getElem_cons_succ, List.getElem_cons_zero, List.setIfInBounds_toArray, List.set_cons_zero, List.set_cons_succ]
  refine wpAnyH_done (by kernel_rfl) ?_ _
  clear hHeld
  obtain ⟨W9, hW9, B9⟩ : ∃ W9, W9 = _ ∧ RB w r rd cap ext _ _ W9 := ⟨_, rfl, B⟩
  rw [← hW9]
  clear B hW9
  have B := B9
  clear B9
  replace kX := B.x.cell
  replace fX := B.x.free
  replace kR := B.z.cell
  replace fR := B.z.free
  replace kH := B.H.cellsC (c := s.c) rfl
  go_wp2_with fail
  replace B := B.set 3 (.int .i64 0)
  replace B := B.set 0 (.int .i64 13)
  refine bodyPost_ret (v := .tuple #[.agg #[.int .i64 (13), .int .i64 (j), .int .i64 (c), .int .i64 (0), .int .u64 (a), .int .u64 (p), .bool (found), .int .i64 (tail), .int .i64 (cyc)], .bool false, .bool true]) (by simp [results, Try.results70, go_sem, kX, kR]) rfl ⟨rfl, ?_⟩
  exact B.done _ _ _ _ _ _ _ _ _


set_option maxRecDepth 100000 in
set_option maxHeartbeats 4000000 in
theorem rba123m {w : World} {r rd cap : Nat} {ext : List Value} {s : HS} (H : RAt w r rd cap ext s) (j c m a p tail cyc : Int) (found : Bool) (hm : -1000000 ≤ m ∧ m ≤ 1000000) (u k : Int) (hu : wAt s.ws (s.c.inP m) = u) (hk : u % 4 = k) (hu0 : 0 ≤ u) (hu1 : u < 18446744073709551616) (k0 : k = 3) (hl : m + 1 < s.c.muts) :
    Calls Try.prog 70 #[.pointer (some ⟨r, 0, none⟩), .agg #[.int .i64 (12), .int .i64 (j), .int .i64 (c), .int .i64 (m), .int .u64 (a), .int .u64 (p), .bool (found), .int .i64 (tail), .int .i64 (cyc)]] w fun e w' => e = .returned (.tuple #[.agg #[.int .i64 (12), .int .i64 (j), .int .i64 (c), .int .i64 (m + 1), .int .u64 (a), .int .u64 (p), .bool (found), .int .i64 (tail), .int .i64 (cyc)], .bool false, .bool true]) ∧ (RAt w' r rd cap ext (s.doIt (aLoad (s.c.inP m))) ∧ Fr [r, rd] w w') := by
  have B := RB.start H [.int .i64 (12), .int .i64 (j), .int .i64 (c), .int .i64 (m), .int .u64 (a), .int .u64 (p), .bool (found), .int .i64 (tail), .int .i64 (cyc)]
  have n0 := B.l1
  have n1 := B.l3
  have hrr := H.right
  subst k0
  have hmw : IntKind.i64.wrap (m + 1) = m + 1 := w64 _ (by omega)

  clear H
  simp only [zCol] at B
  replace kX := B.x.cell
  replace fX := B.x.free
  replace kR := B.z.cell
  replace fR := B.z.free
  replace kH := B.H.cellsC (c := s.c) rfl
  go_enter Try.func70, Try.ntmps70
  go_upto_region 14 with (first | (go_at_call 136; refine (rIn_any B.H _).mono ?_; rintro e w2 ⟨rfl, hF2⟩; (replace B := B.kept0 hF2); (replace kX := B.x.cell); (replace fX := B.x.free); (replace kR := B.z.cell); (replace fR := B.z.free); (replace kH := B.H.cellsC (c := s.c) rfl)) | (go_at_call 132; refine (load_ru hu B.H).mono ?_; rintro e w2 ⟨rfl, HH, hF2⟩; (replace B := B.hand HH hF2); clear HH; (replace kX := B.x.cell); (replace fX := B.x.free); (replace kR := B.z.cell); (replace fR := B.z.free); (replace kH := B.H.cellsC (c := s.c) rfl)))
  replace B := B.set 3 (.int .i64 (m + 1))
  simp only [List.set_cons_zero, List.set_cons_succ] at B
  replace B := B.drew
  refine wp_region_held_drew (S := (fun (W : World) => W.cell? ⟨w.heap.size, 3, none⟩ = some (.int .i64 (m + 1)) ∧ W.cell? ⟨r, 0, none⟩ = some (.int .i64 s.c.cells) ∧ W.cell? ⟨r, 1, none⟩ = some (.int .i64 s.c.muts) ∧ W.cell? ⟨r, 2, none⟩ = some (.int .i64 s.c.regs) ∧ W.cell? ⟨r, 3, none⟩ = some (.int .i64 s.c.globs))) (by kernel_rfl) (by exact ⟨B.x.cell 3, B.H.blk.cell 0, B.H.blk.cell 1, B.H.blk.cell 2, B.H.blk.cell 3⟩) (fun hHeld => ?_)
  refine wpAnyH_take (i := 0) (v := ?_) rfl (by kernel_rfl) (by kernel_rfl) (by kernel_rfl) (fun _ _ _ h => h) (Or.inl ⟨by rfl, ?_⟩) (by assumption) ?_
  rotate_left
  · intro w hSw; (try dsimp only at hSw); go_simp; first | done | with_reducible rfl
  try simp only [Act.put, List.getElem_toArray, List.getElem_cons_succ, List.getElem_cons_zero, List.setIfInBounds_toArray, List.set_cons_zero, List.set_cons_succ]
  refine wpAnyH_take (i := 1) (v := ?_) rfl (by kernel_rfl) (by kernel_rfl) (by kernel_rfl) (fun _ _ _ h => h) (Or.inl ⟨by rfl, ?_⟩) (by assumption) ?_
  rotate_left
  · intro w hSw; (try dsimp only at hSw); go_simp; first | done | with_reducible rfl
  try simp only [Act.put, List.getElem_toArray, List.getElem_cons_succ, List.getElem_cons_zero, List.setIfInBounds_toArray, List.set_cons_zero, List.set_cons_succ]
  refine wpAnyH_take (i := 2) (v := ?_) rfl (by kernel_rfl) (by kernel_rfl) (by kernel_rfl) (fun _ _ _ h => h) (Or.inl ⟨by rfl, ?_⟩) (by assumption) ?_
  rotate_left
  · intro w hSw; (try dsimp only at hSw); go_simp; first | done | with_reducible rfl
  try simp only [Act.put, List.getElem_toArray, List.getElem_cons_succ, List.getElem_cons_zero, List.setIfInBounds_toArray, List.set_cons_zero, List.set_cons_succ]
  refine wpAnyH_take (i := 3) (v := ?_) rfl (by kernel_rfl) (by kernel_rfl) (by kernel_rfl) (fun _ _ _ h => h) (Or.inl ⟨by rfl, ?_⟩) (by assumption) ?_
  rotate_left
  · intro w hSw; (try dsimp only at hSw); go_simp; first | done | with_reducible rfl
  try simp only [Act.put, List.getElem_toArray, List.getElem_cons_succ, List.getElem_cons_zero, List.setIfInBounds_toArray, List.set_cons_zero, List.set_cons_succ]
  refine wpAnyH_take (i := 4) (v := ?_) rfl (by kernel_rfl) (by kernel_rfl) (by kernel_rfl) (fun _ _ _ h => h) (Or.inl ⟨by rfl, ?_⟩) (by assumption) ?_
  rotate_left
  · intro w hSw; (try dsimp only at hSw); go_simp; first | done | with_reducible rfl
  try simp only [Act.put, List.getElem_toArray, List.getElem_cons_succ, List.getElem_cons_zero, List.setIfInBounds_toArray, List.set_cons_zero, List.set_cons_succ]
  refine wpAnyH_take (i := 5) (v := ?_) rfl (by kernel_rfl) (by kernel_rfl) (by kernel_rfl) (fun _ _ _ h => h) (Or.inl ⟨by rfl, ?_⟩) (by assumption) ?_
  rotate_left
  · intro w hSw; (try dsimp only at hSw); go_simp; first | done | with_reducible rfl
  try simp only [Act.put, List.getElem_toArray, List.getElem_cons_succ, List.getElem_cons_zero, List.setIfInBounds_toArray, List.set_cons_zero, List.set_cons_succ]
  refine wpAnyH_take (i := 6) (v := ?_) rfl (by kernel_rfl) (by kernel_rfl) (by kernel_rfl) (fun _ _ _ h => h) (Or.inl ⟨by rfl, ?_⟩) (by assumption) ?_
  rotate_left
  · intro w hSw; (try dsimp only at hSw); go_simp; first | done | with_reducible rfl
  try simp only [Act.put, List.getElem_toArray, List.getElem_cons_succ, List.getElem_cons_zero, List.setIfInBounds_toArray, List.set_cons_zero, List.set_cons_succ]
  refine wpAnyH_take (i := 7) (v := ?_) rfl (by kernel_rfl) (by kernel_rfl) (by kernel_rfl) (fun _ _ _ h => h) (Or.inl ⟨by rfl, ?_⟩) (by assumption) ?_
  rotate_left
  · intro w hSw; (try dsimp only at hSw); go_simp; first | done | with_reducible rfl
  try simp only [Act.put, List.getElem_toArray, List.getElem_cons_succ, List.getElem_cons_zero, List.setIfInBounds_toArray, List.set_cons_zero, List.set_cons_succ]
  refine wpAnyH_done (by kernel_rfl) ?_ _
  clear hHeld
  obtain ⟨W9, hW9, B9⟩ : ∃ W9, W9 = _ ∧ RB w r rd cap ext _ _ W9 := ⟨_, rfl, B⟩
  rw [← hW9]
  clear B hW9
  have B := B9
  clear B9
  replace kX := B.x.cell
  replace fX := B.x.free
  replace kR := B.z.cell
  replace fR := B.z.free
  replace kH := B.H.cellsC (c := s.c) rfl
  go_wp2_with fail
  refine bodyPost_ret (v := .tuple #[.agg #[.int .i64 (12), .int .i64 (j), .int .i64 (c), .int .i64 (m + 1), .int .u64 (a), .int .u64 (p), .bool (found), .int .i64 (tail), .int .i64 (cyc)], .bool false, .bool true]) (by simp [results, Try.results70, go_sem, kX, kR]) rfl ⟨rfl, ?_⟩
  exact B.done _ _ _ _ _ _ _ _ _


set_option maxRecDepth 100000 in
set_option maxHeartbeats 4000000 in
theorem rba123o {w : World} {r rd cap : Nat} {ext : List Value} {s : HS} (H : RAt w r rd cap ext s) (j c m a p tail cyc : Int) (found : Bool) (hm : -1000000 ≤ m ∧ m ≤ 1000000) (u k : Int) (hu : wAt s.ws (s.c.inP m) = u) (hk : u % 4 = k) (hu0 : 0 ≤ u) (hu1 : u < 18446744073709551616) (k0 : k = 3) (hl : s.c.muts ≤ m + 1) :
    Calls Try.prog 70 #[.pointer (some ⟨r, 0, none⟩), .agg #[.int .i64 (12), .int .i64 (j), .int .i64 (c), .int .i64 (m), .int .u64 (a), .int .u64 (p), .bool (found), .int .i64 (tail), .int .i64 (cyc)]] w fun e w' => e = .returned (.tuple #[.agg #[.int .i64 (13), .int .i64 (j), .int .i64 (c), .int .i64 (0), .int .u64 (a), .int .u64 (p), .bool (found), .int .i64 (tail), .int .i64 (cyc)], .bool false, .bool true]) ∧ (RAt w' r rd cap ext (s.doIt (aLoad (s.c.inP m))) ∧ Fr [r, rd] w w') := by
  have B := RB.start H [.int .i64 (12), .int .i64 (j), .int .i64 (c), .int .i64 (m), .int .u64 (a), .int .u64 (p), .bool (found), .int .i64 (tail), .int .i64 (cyc)]
  have n0 := B.l1
  have n1 := B.l3
  have hrr := H.right
  subst k0
  have hmw : IntKind.i64.wrap (m + 1) = m + 1 := w64 _ (by omega)

  clear H
  simp only [zCol] at B
  replace kX := B.x.cell
  replace fX := B.x.free
  replace kR := B.z.cell
  replace fR := B.z.free
  replace kH := B.H.cellsC (c := s.c) rfl
  go_enter Try.func70, Try.ntmps70
  go_upto_region 14 with (first | (go_at_call 136; refine (rIn_any B.H _).mono ?_; rintro e w2 ⟨rfl, hF2⟩; (replace B := B.kept0 hF2); (replace kX := B.x.cell); (replace fX := B.x.free); (replace kR := B.z.cell); (replace fR := B.z.free); (replace kH := B.H.cellsC (c := s.c) rfl)) | (go_at_call 132; refine (load_ru hu B.H).mono ?_; rintro e w2 ⟨rfl, HH, hF2⟩; (replace B := B.hand HH hF2); clear HH; (replace kX := B.x.cell); (replace fX := B.x.free); (replace kR := B.z.cell); (replace fR := B.z.free); (replace kH := B.H.cellsC (c := s.c) rfl)))
  replace B := B.set 3 (.int .i64 (m + 1))
  simp only [List.set_cons_zero, List.set_cons_succ] at B
  replace B := B.drew
  refine wp_region_held_drew (S := (fun (W : World) => W.cell? ⟨w.heap.size, 3, none⟩ = some (.int .i64 (m + 1)) ∧ W.cell? ⟨r, 0, none⟩ = some (.int .i64 s.c.cells) ∧ W.cell? ⟨r, 1, none⟩ = some (.int .i64 s.c.muts) ∧ W.cell? ⟨r, 2, none⟩ = some (.int .i64 s.c.regs) ∧ W.cell? ⟨r, 3, none⟩ = some (.int .i64 s.c.globs))) (by kernel_rfl) (by exact ⟨B.x.cell 3, B.H.blk.cell 0, B.H.blk.cell 1, B.H.blk.cell 2, B.H.blk.cell 3⟩) (fun hHeld => ?_)
  refine wpAnyH_take (i := 0) (v := ?_) rfl (by kernel_rfl) (by kernel_rfl) (by kernel_rfl) (fun _ _ _ h => h) (Or.inl ⟨by rfl, ?_⟩) (by assumption) ?_
  rotate_left
  · intro w hSw; (try dsimp only at hSw); go_simp; first | done | with_reducible rfl
  try simp only [Act.put, List.getElem_toArray, List.getElem_cons_succ, List.getElem_cons_zero, List.setIfInBounds_toArray, List.set_cons_zero, List.set_cons_succ]
  refine wpAnyH_take (i := 1) (v := ?_) rfl (by kernel_rfl) (by kernel_rfl) (by kernel_rfl) (fun _ _ _ h => h) (Or.inl ⟨by rfl, ?_⟩) (by assumption) ?_
  rotate_left
  · intro w hSw; (try dsimp only at hSw); go_simp; first | done | with_reducible rfl
  try simp only [Act.put, List.getElem_toArray, List.getElem_cons_succ, List.getElem_cons_zero, List.setIfInBounds_toArray, List.set_cons_zero, List.set_cons_succ]
  refine wpAnyH_take (i := 2) (v := ?_) rfl (by kernel_rfl) (by kernel_rfl) (by kernel_rfl) (fun _ _ _ h => h) (Or.inl ⟨by rfl, ?_⟩) (by assumption) ?_
  rotate_left
  · intro w hSw; (try dsimp only at hSw); go_simp; first | done | with_reducible rfl
  try simp only [Act.put, List.getElem_toArray, List.getElem_cons_succ, List.getElem_cons_zero, List.setIfInBounds_toArray, List.set_cons_zero, List.set_cons_succ]
  refine wpAnyH_take (i := 3) (v := ?_) rfl (by kernel_rfl) (by kernel_rfl) (by kernel_rfl) (fun _ _ _ h => h) (Or.inl ⟨by rfl, ?_⟩) (by assumption) ?_
  rotate_left
  · intro w hSw; (try dsimp only at hSw); go_simp; first | done | with_reducible rfl
  try simp only [Act.put, List.getElem_toArray, List.getElem_cons_succ, List.getElem_cons_zero, List.setIfInBounds_toArray, List.set_cons_zero, List.set_cons_succ]
  refine wpAnyH_take (i := 4) (v := ?_) rfl (by kernel_rfl) (by kernel_rfl) (by kernel_rfl) (fun _ _ _ h => h) (Or.inl ⟨by rfl, ?_⟩) (by assumption) ?_
  rotate_left
  · intro w hSw; (try dsimp only at hSw); go_simp; first | done | with_reducible rfl
  try simp only [Act.put, List.getElem_toArray, List.getElem_cons_succ, List.getElem_cons_zero, List.setIfInBounds_toArray, List.set_cons_zero, List.set_cons_succ]
  refine wpAnyH_take (i := 5) (v := ?_) rfl (by kernel_rfl) (by kernel_rfl) (by kernel_rfl) (fun _ _ _ h => h) (Or.inl ⟨by rfl, ?_⟩) (by assumption) ?_
  rotate_left
  · intro w hSw; (try dsimp only at hSw); go_simp; first | done | with_reducible rfl
  try simp only [Act.put, List.getElem_toArray, List.getElem_cons_succ, List.getElem_cons_zero, List.setIfInBounds_toArray, List.set_cons_zero, List.set_cons_succ]
  refine wpAnyH_take (i := 6) (v := ?_) rfl (by kernel_rfl) (by kernel_rfl) (by kernel_rfl) (fun _ _ _ h => h) (Or.inl ⟨by rfl, ?_⟩) (by assumption) ?_
  rotate_left
  · intro w hSw; (try dsimp only at hSw); go_simp; first | done | with_reducible rfl
  try simp only [Act.put, List.getElem_toArray, List.getElem_cons_succ, List.getElem_cons_zero, List.setIfInBounds_toArray, List.set_cons_zero, List.set_cons_succ]
  refine wpAnyH_take (i := 7) (v := ?_) rfl (by kernel_rfl) (by kernel_rfl) (by kernel_rfl) (fun _ _ _ h => h) (Or.inl ⟨by rfl, ?_⟩) (by assumption) ?_
  rotate_left
  · intro w hSw; (try dsimp only at hSw); go_simp; first | done | with_reducible rfl
  try simp only [Act.put, List.getElem_toArray, List.getElem_cons_succ, List.getElem_cons_zero, List.setIfInBounds_toArray, List.set_cons_zero, List.set_cons_succ]
  refine wpAnyH_done (by kernel_rfl) ?_ _
  clear hHeld
  obtain ⟨W9, hW9, B9⟩ : ∃ W9, W9 = _ ∧ RB w r rd cap ext _ _ W9 := ⟨_, rfl, B⟩
  rw [← hW9]
  clear B hW9
  have B := B9
  clear B9
  replace kX := B.x.cell
  replace fX := B.x.free
  replace kR := B.z.cell
  replace fR := B.z.free
  replace kH := B.H.cellsC (c := s.c) rfl
  go_wp2_with fail
  replace B := B.set 3 (.int .i64 0)
  replace B := B.set 0 (.int .i64 13)
  refine bodyPost_ret (v := .tuple #[.agg #[.int .i64 (13), .int .i64 (j), .int .i64 (c), .int .i64 (0), .int .u64 (a), .int .u64 (p), .bool (found), .int .i64 (tail), .int .i64 (cyc)], .bool false, .bool true]) (by simp [results, Try.results70, go_sem, kX, kR]) rfl ⟨rfl, ?_⟩
  exact B.done _ _ _ _ _ _ _ _ _


set_option maxRecDepth 100000 in
set_option maxHeartbeats 4000000 in
theorem rba121 {w : World} {r rd cap : Nat} {ext : List Value} {s : HS} (H : RAt w r rd cap ext s) (j c m a p tail cyc : Int) (found : Bool) (hm : -1000000 ≤ m ∧ m ≤ 1000000) (u k : Int) (hu : wAt s.ws (s.c.inP m) = u) (hk : u % 4 = k) (hu0 : 0 ≤ u) (hu1 : u < 18446744073709551616) (k0 : k = 1) :
    Calls Try.prog 70 #[.pointer (some ⟨r, 0, none⟩), .agg #[.int .i64 (12), .int .i64 (j), .int .i64 (c), .int .i64 (m), .int .u64 (a), .int .u64 (p), .bool (found), .int .i64 (tail), .int .i64 (cyc)]] w fun e w' => e = .returned (.tuple #[.agg #[.int .i64 (12), .int .i64 (j), .int .i64 (c), .int .i64 (m), .int .u64 (a), .int .u64 (p), .bool (found), .int .i64 (tail), .int .i64 (cyc)], .bool false, .bool true]) ∧ (RAt w' r rd cap ext (s.doIt (aLoad (s.c.inP m))) ∧ Fr [r, rd] w w') := by
  have B := RB.start H [.int .i64 (12), .int .i64 (j), .int .i64 (c), .int .i64 (m), .int .u64 (a), .int .u64 (p), .bool (found), .int .i64 (tail), .int .i64 (cyc)]
  have n0 := B.l1
  have n1 := B.l3
  have hrr := H.right
  subst k0
  have hmw : IntKind.i64.wrap (m + 1) = m + 1 := w64 _ (by omega)

  clear H
  simp only [zCol] at B
  replace kX := B.x.cell
  replace fX := B.x.free
  replace kR := B.z.cell
  replace fR := B.z.free
  replace kH := B.H.cellsC (c := s.c) rfl
  go_enter Try.func70, Try.ntmps70
  go_wp2_with (first | (go_at_call 136; refine (rIn_any B.H _).mono ?_; rintro e w2 ⟨rfl, hF2⟩; (replace B := B.kept0 hF2); (replace kX := B.x.cell); (replace fX := B.x.free); (replace kR := B.z.cell); (replace fR := B.z.free); (replace kH := B.H.cellsC (c := s.c) rfl)) | (go_at_call 132; refine (load_ru hu B.H).mono ?_; rintro e w2 ⟨rfl, HH, hF2⟩; (replace B := B.hand HH hF2); clear HH; (replace kX := B.x.cell); (replace fX := B.x.free); (replace kR := B.z.cell); (replace fR := B.z.free); (replace kH := B.H.cellsC (c := s.c) rfl)))
  refine bodyPost_ret (v := .tuple #[.agg #[.int .i64 (12), .int .i64 (j), .int .i64 (c), .int .i64 (m), .int .u64 (a), .int .u64 (p), .bool (found), .int .i64 (tail), .int .i64 (cyc)], .bool false, .bool true]) (by simp [results, Try.results70, go_sem, kX, kR]) rfl ⟨rfl, ?_⟩
  exact B.done _ _ _ _ _ _ _ _ _


set_option maxRecDepth 100000 in
set_option maxHeartbeats 4000000 in
theorem rba122 {w : World} {r rd cap : Nat} {ext : List Value} {s : HS} (H : RAt w r rd cap ext s) (j c m a p tail cyc : Int) (found : Bool) (hm : -1000000 ≤ m ∧ m ≤ 1000000) (u k : Int) (hu : wAt s.ws (s.c.inP m) = u) (hk : u % 4 = k) (hu0 : 0 ≤ u) (hu1 : u < 18446744073709551616) (k0 : k = 2) :
    Calls Try.prog 70 #[.pointer (some ⟨r, 0, none⟩), .agg #[.int .i64 (12), .int .i64 (j), .int .i64 (c), .int .i64 (m), .int .u64 (a), .int .u64 (p), .bool (found), .int .i64 (tail), .int .i64 (cyc)]] w fun e w' => e = .returned (.tuple #[.agg #[.int .i64 (12), .int .i64 (j), .int .i64 (c), .int .i64 (m), .int .u64 (a), .int .u64 (p), .bool (found), .int .i64 (tail), .int .i64 (cyc)], .bool false, .bool true]) ∧ (RAt w' r rd cap ext (s.doIt (aLoad (s.c.inP m))) ∧ Fr [r, rd] w w') := by
  have B := RB.start H [.int .i64 (12), .int .i64 (j), .int .i64 (c), .int .i64 (m), .int .u64 (a), .int .u64 (p), .bool (found), .int .i64 (tail), .int .i64 (cyc)]
  have n0 := B.l1
  have n1 := B.l3
  have hrr := H.right
  subst k0
  have hmw : IntKind.i64.wrap (m + 1) = m + 1 := w64 _ (by omega)

  clear H
  simp only [zCol] at B
  replace kX := B.x.cell
  replace fX := B.x.free
  replace kR := B.z.cell
  replace fR := B.z.free
  replace kH := B.H.cellsC (c := s.c) rfl
  go_enter Try.func70, Try.ntmps70
  go_wp2_with (first | (go_at_call 136; refine (rIn_any B.H _).mono ?_; rintro e w2 ⟨rfl, hF2⟩; (replace B := B.kept0 hF2); (replace kX := B.x.cell); (replace fX := B.x.free); (replace kR := B.z.cell); (replace fR := B.z.free); (replace kH := B.H.cellsC (c := s.c) rfl)) | (go_at_call 132; refine (load_ru hu B.H).mono ?_; rintro e w2 ⟨rfl, HH, hF2⟩; (replace B := B.hand HH hF2); clear HH; (replace kX := B.x.cell); (replace fX := B.x.free); (replace kR := B.z.cell); (replace fR := B.z.free); (replace kH := B.H.cellsC (c := s.c) rfl)))
  refine bodyPost_ret (v := .tuple #[.agg #[.int .i64 (12), .int .i64 (j), .int .i64 (c), .int .i64 (m), .int .u64 (a), .int .u64 (p), .bool (found), .int .i64 (tail), .int .i64 (cyc)], .bool false, .bool true]) (by simp [results, Try.results70, go_sem, kX, kR]) rfl ⟨rfl, ?_⟩
  exact B.done _ _ _ _ _ _ _ _ _


set_option maxRecDepth 100000 in
set_option maxHeartbeats 4000000 in
theorem rba11 {w : World} {r rd cap : Nat} {ext : List Value} {s : HS} (H : RAt w r rd cap ext s) (j c m a p tail cyc : Int) (found : Bool)  :
    Calls Try.prog 70 #[.pointer (some ⟨r, 0, none⟩), .agg #[.int .i64 (11), .int .i64 (j), .int .i64 (c), .int .i64 (m), .int .u64 (a), .int .u64 (p), .bool (found), .int .i64 (tail), .int .i64 (cyc)]] w fun e w' => e = .returned (.tuple #[.agg #[.int .i64 (12), .int .i64 (j), .int .i64 (c), .int .i64 (m), .int .u64 (a), .int .u64 (p), .bool (found), .int .i64 (tail), .int .i64 (cyc)], .bool false, .bool true]) ∧ (RAt w' r rd cap ext (s.doIt (aStore 1 1)) ∧ Fr [r, rd] w w') := by
  have B := RB.start H [.int .i64 (11), .int .i64 (j), .int .i64 (c), .int .i64 (m), .int .u64 (a), .int .u64 (p), .bool (found), .int .i64 (tail), .int .i64 (cyc)]
  have n0 := B.l1
  have n1 := B.l3
  have hrr := H.right
  clear H
  simp only [zCol] at B
  replace kX := B.x.cell
  replace fX := B.x.free
  replace kR := B.z.cell
  replace fR := B.z.free
  replace kH := B.H.cellsC (c := s.c) rfl
  go_enter Try.func70, Try.ntmps70
  go_wp2_with (first | (go_at_call 134; refine (rhstore_any B.H _ _ (by omega)).mono ?_; rintro e w2 ⟨rfl, HH, hF2⟩; (replace B := B.hand HH hF2); clear HH; (replace kX := B.x.cell); (replace fX := B.x.free); (replace kR := B.z.cell); (replace fR := B.z.free); (replace kH := B.H.cellsC (c := s.c) rfl)))
  replace B := B.set 0 (.int .i64 12)
  refine bodyPost_ret (v := .tuple #[.agg #[.int .i64 (12), .int .i64 (j), .int .i64 (c), .int .i64 (m), .int .u64 (a), .int .u64 (p), .bool (found), .int .i64 (tail), .int .i64 (cyc)], .bool false, .bool true]) (by simp [results, Try.results70, go_sem, kX, kR]) rfl ⟨rfl, ?_⟩
  exact B.done _ _ _ _ _ _ _ _ _


set_option maxRecDepth 100000 in
set_option maxHeartbeats 4000000 in
theorem rba13y {w : World} {r rd cap : Nat} {ext : List Value} {s : HS} (H : RAt w r rd cap ext s) (j c m a p tail cyc : Int) (found : Bool) (d : Int) (hd : wAt s.ws 2 = d) (h0 : (d == 0) = true) :
    Calls Try.prog 70 #[.pointer (some ⟨r, 0, none⟩), .agg #[.int .i64 (13), .int .i64 (j), .int .i64 (c), .int .i64 (m), .int .u64 (a), .int .u64 (p), .bool (found), .int .i64 (tail), .int .i64 (cyc)]] w fun e w' => e = .returned (.tuple #[.agg #[.int .i64 (14), .int .i64 (j), .int .i64 (c), .int .i64 (m), .int .u64 (a), .int .u64 (p), .bool (found), .int .i64 (tail), .int .i64 (cyc)], .bool true, .bool true]) ∧ (RAt w' r rd cap ext (s.doIt (aLoad 2)) ∧ Fr [r, rd] w w') := by
  have B := RB.start H [.int .i64 (13), .int .i64 (j), .int .i64 (c), .int .i64 (m), .int .u64 (a), .int .u64 (p), .bool (found), .int .i64 (tail), .int .i64 (cyc)]
  have n0 := B.l1
  have n1 := B.l3
  have hrr := H.right
  clear H
  simp only [zCol] at B
  replace kX := B.x.cell
  replace fX := B.x.free
  replace kR := B.z.cell
  replace fR := B.z.free
  replace kH := B.H.cellsC (c := s.c) rfl
  go_enter Try.func70, Try.ntmps70
  go_wp2_with (first | (go_at_call 132; refine (load2_ru hd B.H).mono ?_; rintro e w2 ⟨rfl, HH, hF2⟩; (replace B := B.hand HH hF2); clear HH; (replace kX := B.x.cell); (replace fX := B.x.free); (replace kR := B.z.cell); (replace fR := B.z.free); (replace kH := B.H.cellsC (c := s.c) rfl)))
  replace B := B.set 0 (.int .i64 14)
  refine bodyPost_ret (v := .tuple #[.agg #[.int .i64 (14), .int .i64 (j), .int .i64 (c), .int .i64 (m), .int .u64 (a), .int .u64 (p), .bool (found), .int .i64 (tail), .int .i64 (cyc)], .bool true, .bool true]) (by simp [results, Try.results70, go_sem, kX, kR]) rfl ⟨rfl, ?_⟩
  exact B.done _ _ _ _ _ _ _ _ _


set_option maxRecDepth 100000 in
set_option maxHeartbeats 4000000 in
theorem rba13n {w : World} {r rd cap : Nat} {ext : List Value} {s : HS} (H : RAt w r rd cap ext s) (j c m a p tail cyc : Int) (found : Bool) (d : Int) (hd : wAt s.ws 2 = d) (h0 : (d == 0) = false) :
    Calls Try.prog 70 #[.pointer (some ⟨r, 0, none⟩), .agg #[.int .i64 (13), .int .i64 (j), .int .i64 (c), .int .i64 (m), .int .u64 (a), .int .u64 (p), .bool (found), .int .i64 (tail), .int .i64 (cyc)]] w fun e w' => e = .returned (.tuple #[.agg #[.int .i64 (15), .int .i64 (j), .int .i64 (c), .int .i64 (m), .int .u64 (a), .int .u64 (p), .bool (found), .int .i64 (tail), .int .i64 (cyc)], .bool false, .bool true]) ∧ (RAt w' r rd cap ext (s.doIt (aLoad 2)) ∧ Fr [r, rd] w w') := by
  have B := RB.start H [.int .i64 (13), .int .i64 (j), .int .i64 (c), .int .i64 (m), .int .u64 (a), .int .u64 (p), .bool (found), .int .i64 (tail), .int .i64 (cyc)]
  have n0 := B.l1
  have n1 := B.l3
  have hrr := H.right
  clear H
  simp only [zCol] at B
  replace kX := B.x.cell
  replace fX := B.x.free
  replace kR := B.z.cell
  replace fR := B.z.free
  replace kH := B.H.cellsC (c := s.c) rfl
  go_enter Try.func70, Try.ntmps70
  go_wp2_with (first | (go_at_call 132; refine (load2_ru hd B.H).mono ?_; rintro e w2 ⟨rfl, HH, hF2⟩; (replace B := B.hand HH hF2); clear HH; (replace kX := B.x.cell); (replace fX := B.x.free); (replace kR := B.z.cell); (replace fR := B.z.free); (replace kH := B.H.cellsC (c := s.c) rfl)))
  replace B := B.set 0 (.int .i64 15)
  refine bodyPost_ret (v := .tuple #[.agg #[.int .i64 (15), .int .i64 (j), .int .i64 (c), .int .i64 (m), .int .u64 (a), .int .u64 (p), .bool (found), .int .i64 (tail), .int .i64 (cyc)], .bool false, .bool true]) (by simp [results, Try.results70, go_sem, kX, kR]) rfl ⟨rfl, ?_⟩
  exact B.done _ _ _ _ _ _ _ _ _


set_option maxRecDepth 100000 in
set_option maxHeartbeats 4000000 in
theorem rba14 {w : World} {r rd cap : Nat} {ext : List Value} {s : HS} (H : RAt w r rd cap ext s) (j c m a p tail cyc : Int) (found : Bool)  :
    Calls Try.prog 70 #[.pointer (some ⟨r, 0, none⟩), .agg #[.int .i64 (14), .int .i64 (j), .int .i64 (c), .int .i64 (m), .int .u64 (a), .int .u64 (p), .bool (found), .int .i64 (tail), .int .i64 (cyc)]] w fun e w' => e = .returned (.tuple #[.agg #[.int .i64 (20), .int .i64 (j), .int .i64 (0), .int .i64 (m), .int .u64 (a), .int .u64 (p), .bool (found), .int .i64 (tail), .int .i64 (cyc)], .bool false, .bool true]) ∧ (RAt w' r rd cap ext (s.doIt (aStore 1 0)) ∧ Fr [r, rd] w w') := by
  have B := RB.start H [.int .i64 (14), .int .i64 (j), .int .i64 (c), .int .i64 (m), .int .u64 (a), .int .u64 (p), .bool (found), .int .i64 (tail), .int .i64 (cyc)]
  have n0 := B.l1
  have n1 := B.l3
  have hrr := H.right
  clear H
  simp only [zCol] at B
  replace kX := B.x.cell
  replace fX := B.x.free
  replace kR := B.z.cell
  replace fR := B.z.free
  replace kH := B.H.cellsC (c := s.c) rfl
  go_enter Try.func70, Try.ntmps70
  go_wp2_with (first | (go_at_call 134; refine (rhstore_any B.H _ _ (by omega)).mono ?_; rintro e w2 ⟨rfl, HH, hF2⟩; (replace B := B.hand HH hF2); clear HH; (replace kX := B.x.cell); (replace fX := B.x.free); (replace kR := B.z.cell); (replace fR := B.z.free); (replace kH := B.H.cellsC (c := s.c) rfl)))
  replace B := B.set 2 (.int .i64 0)
  replace B := B.set 0 (.int .i64 20)
  refine bodyPost_ret (v := .tuple #[.agg #[.int .i64 (20), .int .i64 (j), .int .i64 (0), .int .i64 (m), .int .u64 (a), .int .u64 (p), .bool (found), .int .i64 (tail), .int .i64 (cyc)], .bool false, .bool true]) (by simp [results, Try.results70, go_sem, kX, kR]) rfl ⟨rfl, ?_⟩
  exact B.done _ _ _ _ _ _ _ _ _


set_option maxRecDepth 100000 in
set_option maxHeartbeats 4000000 in
theorem rba15 {w : World} {r rd cap : Nat} {ext : List Value} {s : HS} (H : RAt w r rd cap ext s) (j c m a p tail cyc : Int) (found : Bool)  :
    Calls Try.prog 70 #[.pointer (some ⟨r, 0, none⟩), .agg #[.int .i64 (15), .int .i64 (j), .int .i64 (c), .int .i64 (m), .int .u64 (a), .int .u64 (p), .bool (found), .int .i64 (tail), .int .i64 (cyc)]] w fun e w' => e = .returned (.tuple #[.agg #[.int .i64 (3), .int .i64 (j), .int .i64 (c), .int .i64 (m), .int .u64 (a), .int .u64 (p), .bool (found), .int .i64 (tail), .int .i64 (cyc)], .bool false, .bool true]) ∧ (RAt w' r rd cap ext (s.doIt (aStore 1 0)) ∧ Fr [r, rd] w w') := by
  have B := RB.start H [.int .i64 (15), .int .i64 (j), .int .i64 (c), .int .i64 (m), .int .u64 (a), .int .u64 (p), .bool (found), .int .i64 (tail), .int .i64 (cyc)]
  have n0 := B.l1
  have n1 := B.l3
  have hrr := H.right
  clear H
  simp only [zCol] at B
  replace kX := B.x.cell
  replace fX := B.x.free
  replace kR := B.z.cell
  replace fR := B.z.free
  replace kH := B.H.cellsC (c := s.c) rfl
  go_enter Try.func70, Try.ntmps70
  go_wp2_with (first | (go_at_call 134; refine (rhstore_any B.H _ _ (by omega)).mono ?_; rintro e w2 ⟨rfl, HH, hF2⟩; (replace B := B.hand HH hF2); clear HH; (replace kX := B.x.cell); (replace fX := B.x.free); (replace kR := B.z.cell); (replace fR := B.z.free); (replace kH := B.H.cellsC (c := s.c) rfl)))
  replace B := B.set 0 (.int .i64 3)
  refine bodyPost_ret (v := .tuple #[.agg #[.int .i64 (3), .int .i64 (j), .int .i64 (c), .int .i64 (m), .int .u64 (a), .int .u64 (p), .bool (found), .int .i64 (tail), .int .i64 (cyc)], .bool false, .bool true]) (by simp [results, Try.results70, go_sem, kX, kR]) rfl ⟨rfl, ?_⟩
  exact B.done _ _ _ _ _ _ _ _ _


set_option maxRecDepth 100000 in
set_option maxHeartbeats 4000000 in
theorem rbano {w : World} {r rd cap : Nat} {ext : List Value} {s : HS} (H : RAt w r rd cap ext s) (line j c m a p tail cyc : Int) (found : Bool) (k1 : ¬ line = 10) (k2 : ¬ line = 16) (k3 : ¬ line = 11) (k4 : ¬ line = 12) (k5 : ¬ line = 13) (k6 : ¬ line = 14) (k7 : ¬ line = 15) :
    Calls Try.prog 70 #[.pointer (some ⟨r, 0, none⟩), .agg #[.int .i64 (line), .int .i64 (j), .int .i64 (c), .int .i64 (m), .int .u64 (a), .int .u64 (p), .bool (found), .int .i64 (tail), .int .i64 (cyc)]] w fun e w' => e = .returned (.tuple #[.agg #[.int .i64 (line), .int .i64 (j), .int .i64 (c), .int .i64 (m), .int .u64 (a), .int .u64 (p), .bool (found), .int .i64 (tail), .int .i64 (cyc)], .bool false, .bool false]) ∧ (RAt w' r rd cap ext (s) ∧ Fr [r, rd] w w') := by
  have B := RB.start H [.int .i64 (line), .int .i64 (j), .int .i64 (c), .int .i64 (m), .int .u64 (a), .int .u64 (p), .bool (found), .int .i64 (tail), .int .i64 (cyc)]
  have n0 := B.l1
  have n1 := B.l3
  have hrr := H.right
  have g1 : (line == 10) = false := by simpa using k1
  have g2 : (line == 16) = false := by simpa using k2
  have g3 : (line == 12) = false := by simpa using k4

  have HNo := (H.alloc (.cells #[.int .i64 (line), .int .i64 (j), .int .i64 (c), .int .i64 (m), .int .u64 (a), .int .u64 (p), .bool (found), .int .i64 (tail), .int .i64 (cyc)] 86)).alloc (.cells #[.int .i64 (line), .int .i64 (j), .int .i64 (c), .int .i64 (m), .int .u64 (a), .int .u64 (p), .bool (found), .int .i64 (tail), .int .i64 (cyc)] 86)
  have FNo := ((Fr.refl [r, rd] w).alloc (.cells #[.int .i64 (line), .int .i64 (j), .int .i64 (c), .int .i64 (m), .int .u64 (a), .int .u64 (p), .bool (found), .int .i64 (tail), .int .i64 (cyc)] 86)).alloc (.cells #[.int .i64 (line), .int .i64 (j), .int .i64 (c), .int .i64 (m), .int .u64 (a), .int .u64 (p), .bool (found), .int .i64 (tail), .int .i64 (cyc)] 86)
  clear H
  simp only [zCol] at B
  replace kX := B.x.cell
  replace fX := B.x.free
  replace kR := B.z.cell
  replace fR := B.z.free
  replace kH := B.H.cellsC (c := s.c) rfl
  go_enter Try.func70, Try.ntmps70
  go_wp2_with fail
  refine bodyPost_ret (v := .tuple #[.agg #[.int .i64 (line), .int .i64 (j), .int .i64 (c), .int .i64 (m), .int .u64 (a), .int .u64 (p), .bool (found), .int .i64 (tail), .int .i64 (cyc)], .bool false, .bool false]) (by simp [results, Try.results70, go_sem]) rfl ⟨rfl, ?_⟩
  exact ⟨HNo, FNo⟩

end Go.Proofs.Yteggckdgjecfmaa
