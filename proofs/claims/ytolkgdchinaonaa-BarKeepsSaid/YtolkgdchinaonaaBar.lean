/- gate.Says, bar.Step$1; bar.Step line by line. -/
import Derived.Test.YtolkgdchinaonaaCBox
namespace Go.Proofs.Ytolkgdchinaonaa
open Go.RowKit
set_option linter.unusedVariables false
set_option linter.unusedSimpArgs false

theorem says_any (u : Int) (w : World) (h0 : 0 ≤ u) (h1 : u < 18446744073709551616) : Calls Try.prog 43 #[.int .u64 u] w fun e w' => e = .returned (.int .u64 (u % 4)) ∧ w = w' := by
  go_enter Try.func43, Try.ntmps43
  go_wp2
  go_ret
  exact ⟨rfl, rfl⟩
theorem load_u {w : World} {h ab db : Nat} {s : HS} {i u : Int} (hu : wAt s.ws i = u) (H : HAt w h ab db s) :
    Calls Try.prog 126 #[.pointer (some ⟨h, 0, none⟩), .int .i64 i] w fun e w' => e = .returned (.int .u64 u) ∧ (HAt w' h ab db (s.doIt (aLoad i)) ∧ Fr [h, db] w w') := by
  subst hu
  exact hload_any H i
theorem load2_u {w : World} {h ab db : Nat} {s : HS} {u : Int} (hu : wAt s.ws 2 = u) (H : HAt w h ab db s) :
    Calls Try.prog 126 #[.pointer (some ⟨h, 0, none⟩), .int .i64 2] w fun e w' => e = .returned (.int .u64 u) ∧ (HAt w' h ab db (s.doIt (aLoad 2)) ∧ Fr [h, db] w w') := load_u hu H

set_option maxRecDepth 100000 in
set_option maxHeartbeats 4000000 in
theorem barpass_more {w : World} {h ab db hb xb : Nat} {s : HS} {line j c m a p tail cyc l1 l2 : Int} {found : Bool} (b : Blk w hb 46 [.pointer (some ⟨h, 0, none⟩)]) (x : Blk w xb 81 [.int .i64 (line), .int .i64 (j), .int .i64 (c), .int .i64 (m), .int .u64 (a), .int .u64 (p), .bool (found), .int .i64 (tail), .int .i64 (cyc)]) (H : HAt w h ab db s) (d1 : xb ≠ h) (d2 : xb ≠ hb) (d3 : xb ≠ ab) (d4 : xb ≠ db) (hm : -1000000 ≤ m ∧ m ≤ 1000000) (hl : m + 1 < s.c.muts) :
    Calls Try.prog 141 #[.int .i64 l1, .int .i64 l2, .pointer (some ⟨xb, 0, none⟩), .pointer (some ⟨hb, 0, none⟩)] w fun e w' => e = .returned (.tuple #[]) ∧ Blk w' xb 81 [.int .i64 (l1), .int .i64 (j), .int .i64 (c), .int .i64 (m + 1), .int .u64 (a), .int .u64 (p), .bool (found), .int .i64 (tail), .int .i64 (cyc)] ∧ Fr [xb] w w' := by
  have hmw : IntKind.i64.wrap (m + 1) = m + 1 := w64 _ (by omega)
  have d1' : ¬ h = xb := fun e => d1 e.symm
  have d2' : ¬ hb = xb := fun e => d2 e.symm
  have kx := x.cell
  have fx := x.free
  have kb := b.cell
  have kH := H.cellsC (c := s.c) rfl
  have x1 := (x.set 3 (.int .i64 (m + 1))).set 0 (.int .i64 l1)
  simp only [List.set_cons_zero, List.set_cons_succ] at x1
  have H1 := (H.other (p := ⟨xb, 3, none⟩) (by simpa using d1') (by simpa using d3.symm) (by simpa using d4.symm) (.int .i64 (m + 1))).other (p := ⟨xb, 0, none⟩) (by simpa using d1') (by simpa using d3.symm) (by simpa using d4.symm) (.int .i64 l1)
  have F1 := ((Fr.refl [xb] w).setCell (p := ⟨xb, 3, none⟩) (by simp) (.int .i64 (m + 1))).setCell (p := ⟨xb, 0, none⟩) (by simp) (.int .i64 l1)
  have hld : decide (s.c.muts ≤ m + 1) = false := by simpa using hl
  go_enter Try.func141, Try.ntmps141
  go_upto_region 2 with fail
  replace kx := x1.cell
  replace fx := x1.free
  replace kH := H1.cellsC (c := s.c) rfl
  replace kb := ((b.other (p := ⟨xb, 3, none⟩) (by simpa using d2') (.int .i64 (m + 1))).other (p := ⟨xb, 0, none⟩) (by simpa using d2') (.int .i64 l1)).cell
  go_quiet (fail)
  go_wp2
  go_end0
  exact ⟨rfl, x1.drewN _, F1.drewN _⟩

set_option maxRecDepth 100000 in
set_option maxHeartbeats 4000000 in
theorem barpass_over {w : World} {h ab db hb xb : Nat} {s : HS} {line j c m a p tail cyc l1 l2 : Int} {found : Bool} (b : Blk w hb 46 [.pointer (some ⟨h, 0, none⟩)]) (x : Blk w xb 81 [.int .i64 (line), .int .i64 (j), .int .i64 (c), .int .i64 (m), .int .u64 (a), .int .u64 (p), .bool (found), .int .i64 (tail), .int .i64 (cyc)]) (H : HAt w h ab db s) (d1 : xb ≠ h) (d2 : xb ≠ hb) (d3 : xb ≠ ab) (d4 : xb ≠ db) (hm : -1000000 ≤ m ∧ m ≤ 1000000) (hl : s.c.muts ≤ m + 1) :
    Calls Try.prog 141 #[.int .i64 l1, .int .i64 l2, .pointer (some ⟨xb, 0, none⟩), .pointer (some ⟨hb, 0, none⟩)] w fun e w' => e = .returned (.tuple #[]) ∧ Blk w' xb 81 [.int .i64 (l2), .int .i64 (j), .int .i64 (c), .int .i64 (0), .int .u64 (a), .int .u64 (p), .bool (found), .int .i64 (tail), .int .i64 (cyc)] ∧ Fr [xb] w w' := by
  have hmw : IntKind.i64.wrap (m + 1) = m + 1 := w64 _ (by omega)
  have d1' : ¬ h = xb := fun e => d1 e.symm
  have d2' : ¬ hb = xb := fun e => d2 e.symm
  have kx := x.cell
  have fx := x.free
  have kb := b.cell
  have kH := H.cellsC (c := s.c) rfl
  have x1 := (x.set 3 (.int .i64 (m + 1))).set 0 (.int .i64 l1)
  simp only [List.set_cons_zero, List.set_cons_succ] at x1
  have H1 := (H.other (p := ⟨xb, 3, none⟩) (by simpa using d1') (by simpa using d3.symm) (by simpa using d4.symm) (.int .i64 (m + 1))).other (p := ⟨xb, 0, none⟩) (by simpa using d1') (by simpa using d3.symm) (by simpa using d4.symm) (.int .i64 l1)
  have F1 := ((Fr.refl [xb] w).setCell (p := ⟨xb, 3, none⟩) (by simp) (.int .i64 (m + 1))).setCell (p := ⟨xb, 0, none⟩) (by simp) (.int .i64 l1)
  have hld : decide (s.c.muts ≤ m + 1) = true := by simpa using hl
  go_enter Try.func141, Try.ntmps141
  go_upto_region 2 with fail
  replace kx := x1.cell
  replace fx := x1.free
  replace kH := H1.cellsC (c := s.c) rfl
  replace kb := ((b.other (p := ⟨xb, 3, none⟩) (by simpa using d2') (.int .i64 (m + 1))).other (p := ⟨xb, 0, none⟩) (by simpa using d2') (.int .i64 l1)).cell
  go_quiet (fail)
  go_wp2
  go_end0
  have x2 := ((x1.drewN nq).set 3 (.int .i64 0)).set 0 (.int .i64 l2)
  simp only [List.set_cons_zero, List.set_cons_succ] at x2
  exact ⟨rfl, x2, ((F1.drewN _).setCell (by simp) _).setCell (by simp) _⟩

set_option maxRecDepth 100000 in
set_option maxHeartbeats 4000000 in
theorem ba100m {w : World} {h ab db : Nat} {s : HS} (H : HAt w h ab db s) (j c m a p tail cyc : Int) (found : Bool) (hm : -1000000 ≤ m ∧ m ≤ 1000000) (u k : Int) (hu : wAt s.ws (s.c.inP m) = u) (hk : u % 4 = k) (hu0 : 0 ≤ u) (hu1 : u < 18446744073709551616) (k0 : k = 0) (hl : m + 1 < s.c.muts) :
    Calls Try.prog 53 #[.pointer (some ⟨h, 0, none⟩), .agg #[.int .i64 (10), .int .i64 (j), .int .i64 (c), .int .i64 (m), .int .u64 (a), .int .u64 (p), .bool (found), .int .i64 (tail), .int .i64 (cyc)]] w fun e w' => e = .returned (.tuple #[.agg #[.int .i64 (10), .int .i64 (j), .int .i64 (c), .int .i64 (m + 1), .int .u64 (0), .int .u64 (p), .bool (found), .int .i64 (tail), .int .i64 (cyc)], .bool false, .bool true]) ∧ (HAt w' h ab db (s.doIt (aLoad (s.c.inP m))) ∧ Fr [h, db] w w') := by
  have hmf : ∀ (fn : Fn) (first cap : Array Value) (w : World), (Instr.makeFunc fn first cap).run Try.prog w = .ok (.func fn first cap) w := fun _ _ _ _ => rfl
  have B := CB.start H [.int .i64 (10), .int .i64 (j), .int .i64 (c), .int .i64 (m), .int .u64 (a), .int .u64 (p), .bool (found), .int .i64 (tail), .int .i64 (cyc)]
  have n0 := B.l1
  have n1 := B.l3
  have n2 := B.l2
  have hrr := H.right
  subst k0
  (try replace hl := hid hl)
  (try have hlH := hl)
  have HSy := hid (fun W => says_any u W hu0 hu1)
  rw [hk] at HSy

  clear H
  simp only [zCol] at B
  replace kX := B.x.cell
  replace fX := B.x.free
  replace kB := B.b.cell
  replace kR := B.r.cell
  replace fR := B.r.free
  replace kH := B.H.cellsC (c := s.c) rfl
  go_enter Try.func53, Try.ntmps53
  go_upto_region 7 with fail
  replace B := B.drew
  refine wp_region_held_drew (S := (fun (W : World) => W.cell? ⟨w.heap.size, 0, none⟩ = some (.pointer (some ⟨h, 0, none⟩)) ∧ W.cell? ⟨w.heap.size + 1, 3, none⟩ = some (.int .i64 m) ∧ W.cell? ⟨h, 1, none⟩ = some (.int .i64 s.c.cells) ∧ W.cell? ⟨h, 2, none⟩ = some (.int .i64 s.c.muts) ∧ W.cell? ⟨h, 3, none⟩ = some (.int .i64 s.c.regs) ∧ W.cell? ⟨h, 4, none⟩ = some (.int .i64 s.c.globs))) (by kernel_rfl) (by exact ⟨B.b.cell 0, B.x.cell 3, B.H.blk.cell 1, B.H.blk.cell 2, B.H.blk.cell 3, B.H.blk.cell 4⟩) (fun hHeld => ?_)
  refine wpAnyH_take (i := 0) (v := ?_) rfl (by kernel_rfl) (by kernel_rfl) (by kernel_rfl) (fun _ _ _ h => h) (Or.inl ⟨by rfl, ?_⟩) (by assumption) ?_
  rotate_left
  · intro w hSw; (try dsimp only at hSw); go_simp; first | done | with_reducible rfl
  try simp only [Act.put, List.getElem_toArray, List.getElem_cons_succ, List.getElem_cons_zero, List.setIfInBounds_toArray, List.set_cons_zero, List.set_cons_succ]
  refine wpAnyH_take (i := 1) (v := ?_) rfl (by kernel_rfl) (by kernel_rfl) (by kernel_rfl) (fun _ _ _ h => h) (Or.inl ⟨by rfl, ?_⟩) (by assumption) ?_
  rotate_left
  · intro w hSw; (try dsimp only at hSw); go_simp; first | done | with_reducible rfl
  try simp only [Act.put, List.getElem_toArray, List.getElem_cons_succ, List.getElem_cons_zero, List.setIfInBounds_toArray, List.set_cons_zero, List.set_cons_succ]
  refine wpAnyH_take (i := 2) (v := ?_) rfl (by kernel_rfl) (by kernel_rfl) (by kernel_rfl) (fun _ _ _ h => h) (Or.inl ⟨by rfl, ?_⟩) (by assumption) ?_
  rotate_left
  · intro w hSw; (try dsimp only at hSw); go_simp; first | done | with_reducible rfl
  try simp only [Act.put, List.getElem_toArray, List.getElem_cons_succ, List.getElem_cons_zero, List.setIfInBounds_toArray, List.set_cons_zero, List.set_cons_succ]
  refine wpAnyH_take (i := 3) (v := ?_) rfl (by kernel_rfl) (by kernel_rfl) (by kernel_rfl) (fun _ _ _ h => h) (Or.inl ⟨by rfl, ?_⟩) (by assumption) ?_
  rotate_left
  · intro w hSw; (try dsimp only at hSw); go_simp; first | done | with_reducible rfl
  try simp only [Act.put, List.getElem_toArray, List.getElem_cons_succ, List.getElem_cons_zero, List.setIfInBounds_toArray, List.set_cons_zero, List.set_cons_succ]
  refine wpAnyH_take (i := 4) (v := ?_) rfl (by kernel_rfl) (by kernel_rfl) (by kernel_rfl) (fun _ _ _ h => h) (Or.inl ⟨by rfl, ?_⟩) (by assumption) ?_
  rotate_left
  · intro w hSw; (try dsimp only at hSw); go_simp; first | done | with_reducible rfl
  try simp only [Act.put, List.getElem_toArray, List.getElem_cons_succ, List.getElem_cons_zero, List.setIfInBounds_toArray, List.set_cons_zero, List.set_cons_succ]
  refine wpAnyH_take (i := 5) (v := ?_) rfl (by kernel_rfl) (by kernel_rfl) (by kernel_rfl) (fun _ _ _ h => h) (Or.inl ⟨by rfl, ?_⟩) (by assumption) ?_
  rotate_left
  · intro w hSw; (try dsimp only at hSw); go_simp; first | done | with_reducible rfl
  try simp only [Act.put, List.getElem_toArray, List.getElem_cons_succ, List.getElem_cons_zero, List.setIfInBounds_toArray, List.set_cons_zero, List.set_cons_succ]
  refine wpAnyH_take (i := 6) (v := ?_) rfl (by kernel_rfl) (by kernel_rfl) (by kernel_rfl) (fun _ _ _ h => h) (Or.inl ⟨by rfl, ?_⟩) (by assumption) ?_
  rotate_left
  · intro w hSw; (try dsimp only at hSw); go_simp; first | done | with_reducible rfl
  try simp only [Act.put, List.getElem_toArray, List.getElem_cons_succ, List.getElem_cons_zero, List.setIfInBounds_toArray, List.set_cons_zero, List.set_cons_succ]
  refine wpAnyH_ready (rs := [7]) (by kernel_rfl) (by simp) ?_
  refine AllReadyH.cons rfl (fun K hK => ?_) AllReadyH.nil
  go_simp
  (go_at_call 45; refine (in_any hrr _ _).mono ?_; rintro e w2 ⟨rfl, hF2⟩; (replace B := B.kept0 hF2); (replace kX := B.x.cell); (replace fX := B.x.free); (replace kB := B.b.cell); (replace kR := B.r.cell); (replace fR := B.r.free); (replace kH := B.H.cellsC (c := s.c) rfl))
  go_wp2_with fail
  refine hK.out _ _ (by exact ⟨B.b.cell 0, B.x.cell 3, B.H.blk.cell 1, B.H.blk.cell 2, B.H.blk.cell 3, B.H.blk.cell 4⟩) (fun hHeld => ?_)
  clear hK K
  try simp only [Act.put, List.getElem_toArray, List.getElem_cons_succ, List.getElem_cons_zero, List.setIfInBounds_toArray, List.set_cons_zero, List.set_cons_succ]
  refine wpAnyH_ready (rs := [8]) (by kernel_rfl) (by simp) ?_
  refine AllReadyH.cons rfl (fun K hK => ?_) AllReadyH.nil
  go_simp
  (go_at_call 126; refine (load_u hu B.H).mono ?_; rintro e w2 ⟨rfl, HH, hF2⟩; (replace B := B.hand HH hF2); clear HH; (replace kX := B.x.cell); (replace fX := B.x.free); (replace kB := B.b.cell); (replace kR := B.r.cell); (replace fR := B.r.free); (replace kH := B.H.cellsC (c := s.c) rfl))
  go_wp2_with fail
  refine hK.out _ _ (by exact ⟨B.b.cell 0, B.x.cell 3, B.H.blk.cell 1, B.H.blk.cell 2, B.H.blk.cell 3, B.H.blk.cell 4⟩) (fun hHeld => ?_)
  clear hK K
  try simp only [Act.put, List.getElem_toArray, List.getElem_cons_succ, List.getElem_cons_zero, List.setIfInBounds_toArray, List.set_cons_zero, List.set_cons_succ]
  refine wpAnyH_take (i := 9) (v := ?_) rfl (by kernel_rfl) (by kernel_rfl) (by kernel_rfl) (fun _ _ _ h => h) (Or.inl ⟨by rfl, ?_⟩) (by assumption) ?_
  rotate_left
  · intro w hSw; (try dsimp only at hSw); go_simp; first | done | with_reducible rfl
  try simp only [Act.put, List.getElem_toArray, List.getElem_cons_succ, List.getElem_cons_zero, List.setIfInBounds_toArray, List.set_cons_zero, List.set_cons_succ]
  refine wpAnyH_ready (rs := [10]) (by kernel_rfl) (by simp) ?_
  refine AllReadyH.cons rfl (fun K hK => ?_) AllReadyH.nil
  replace kX := B.x.cell
  replace fX := B.x.free
  replace kB := B.b.cell
  replace kR := B.r.cell
  replace fR := B.r.free
  replace kH := B.H.cellsC (c := s.c) rfl
  go_simp
  replace B := B.set 4 (.int .u64 u)
  refine hK.out _ _ (by exact ⟨B.b.cell 0, B.x.cell 3, B.H.blk.cell 1, B.H.blk.cell 2, B.H.blk.cell 3, B.H.blk.cell 4⟩) (fun hHeld => ?_)
  clear hK K
  try simp only [Act.put, List.getElem_toArray, List.getElem_cons_succ, List.getElem_cons_zero, List.setIfInBounds_toArray, List.set_cons_zero, List.set_cons_succ]
  refine wpAnyH_done (by kernel_rfl) ?_ _
  replace kX := B.x.cell
  replace fX := B.x.free
  replace kB := B.b.cell
  replace kR := B.r.cell
  replace fR := B.r.free
  replace kH := B.H.cellsC (c := s.c) rfl
  simp only [List.set_cons_zero, List.set_cons_succ] at B
  go_wp2_with (first | (go_at_call 43; refine (HSy.out _).mono ?_; rintro e w2 ⟨rfl, rfl⟩) | (go_at_call 141; (replace B := B.set 0 (.int .i64 16)); (replace B := B.set 4 (.int .u64 0)); simp only [List.set_cons_zero, List.set_cons_succ] at B; (have hpp := barpass_more (l1 := 10) (l2 := 11) B.b B.x B.H (by omega) (by omega) (by omega) (by omega) hm hlH.out); (refine hpp.mono ?_); clear hpp; rintro e w2 ⟨rfl, hX2, hF2⟩; (replace B := B.own hX2 hF2); clear hX2; (replace kX := B.x.cell); (replace fX := B.x.free); (replace kB := B.b.cell); (replace kR := B.r.cell); (replace fR := B.r.free); (replace kH := B.H.cellsC (c := s.c) rfl)))
  refine bodyPost_ret (v := .tuple #[.agg #[.int .i64 (10), .int .i64 (j), .int .i64 (c), .int .i64 (m + 1), .int .u64 (0), .int .u64 (p), .bool (found), .int .i64 (tail), .int .i64 (cyc)], .bool false, .bool true]) (by simp [results, Try.results53, go_sem, kX, kR]) rfl ⟨rfl, ?_⟩
  exact B.done _ _ _ _ _ _ _ _ _


set_option maxRecDepth 100000 in
set_option maxHeartbeats 4000000 in
theorem ba100o {w : World} {h ab db : Nat} {s : HS} (H : HAt w h ab db s) (j c m a p tail cyc : Int) (found : Bool) (hm : -1000000 ≤ m ∧ m ≤ 1000000) (u k : Int) (hu : wAt s.ws (s.c.inP m) = u) (hk : u % 4 = k) (hu0 : 0 ≤ u) (hu1 : u < 18446744073709551616) (k0 : k = 0) (hl : s.c.muts ≤ m + 1) :
    Calls Try.prog 53 #[.pointer (some ⟨h, 0, none⟩), .agg #[.int .i64 (10), .int .i64 (j), .int .i64 (c), .int .i64 (m), .int .u64 (a), .int .u64 (p), .bool (found), .int .i64 (tail), .int .i64 (cyc)]] w fun e w' => e = .returned (.tuple #[.agg #[.int .i64 (11), .int .i64 (j), .int .i64 (c), .int .i64 (0), .int .u64 (0), .int .u64 (p), .bool (found), .int .i64 (tail), .int .i64 (cyc)], .bool false, .bool true]) ∧ (HAt w' h ab db (s.doIt (aLoad (s.c.inP m))) ∧ Fr [h, db] w w') := by
  have hmf : ∀ (fn : Fn) (first cap : Array Value) (w : World), (Instr.makeFunc fn first cap).run Try.prog w = .ok (.func fn first cap) w := fun _ _ _ _ => rfl
  have B := CB.start H [.int .i64 (10), .int .i64 (j), .int .i64 (c), .int .i64 (m), .int .u64 (a), .int .u64 (p), .bool (found), .int .i64 (tail), .int .i64 (cyc)]
  have n0 := B.l1
  have n1 := B.l3
  have n2 := B.l2
  have hrr := H.right
  subst k0
  (try replace hl := hid hl)
  (try have hlH := hl)
  have HSy := hid (fun W => says_any u W hu0 hu1)
  rw [hk] at HSy

  clear H
  simp only [zCol] at B
  replace kX := B.x.cell
  replace fX := B.x.free
  replace kB := B.b.cell
  replace kR := B.r.cell
  replace fR := B.r.free
  replace kH := B.H.cellsC (c := s.c) rfl
  go_enter Try.func53, Try.ntmps53
  go_upto_region 7 with fail
  replace B := B.drew
  refine wp_region_held_drew (S := (fun (W : World) => W.cell? ⟨w.heap.size, 0, none⟩ = some (.pointer (some ⟨h, 0, none⟩)) ∧ W.cell? ⟨w.heap.size + 1, 3, none⟩ = some (.int .i64 m) ∧ W.cell? ⟨h, 1, none⟩ = some (.int .i64 s.c.cells) ∧ W.cell? ⟨h, 2, none⟩ = some (.int .i64 s.c.muts) ∧ W.cell? ⟨h, 3, none⟩ = some (.int .i64 s.c.regs) ∧ W.cell? ⟨h, 4, none⟩ = some (.int .i64 s.c.globs))) (by kernel_rfl) (by exact ⟨B.b.cell 0, B.x.cell 3, B.H.blk.cell 1, B.H.blk.cell 2, B.H.blk.cell 3, B.H.blk.cell 4⟩) (fun hHeld => ?_)
  refine wpAnyH_take (i := 0) (v := ?_) rfl (by kernel_rfl) (by kernel_rfl) (by kernel_rfl) (fun _ _ _ h => h) (Or.inl ⟨by rfl, ?_⟩) (by assumption) ?_
  rotate_left
  · intro w hSw; (try dsimp only at hSw); go_simp; first | done | with_reducible rfl
  try simp only [Act.put, List.getElem_toArray, List.getElem_cons_succ, List.getElem_cons_zero, List.setIfInBounds_toArray, List.set_cons_zero, List.set_cons_succ]
  refine wpAnyH_take (i := 1) (v := ?_) rfl (by kernel_rfl) (by kernel_rfl) (by kernel_rfl) (fun _ _ _ h => h) (Or.inl ⟨by rfl, ?_⟩) (by assumption) ?_
  rotate_left
  · intro w hSw; (try dsimp only at hSw); go_simp; first | done | with_reducible rfl
  try simp only [Act.put, List.getElem_toArray, List.getElem_cons_succ, List.getElem_cons_zero, List.setIfInBounds_toArray, List.set_cons_zero, List.set_cons_succ]
  refine wpAnyH_take (i := 2) (v := ?_) rfl (by kernel_rfl) (by kernel_rfl) (by kernel_rfl) (fun _ _ _ h => h) (Or.inl ⟨by rfl, ?_⟩) (by assumption) ?_
  rotate_left
  · intro w hSw; (try dsimp only at hSw); go_simp; first | done | with_reducible rfl
  try simp only [Act.put, List.getElem_toArray, List.getElem_cons_succ, List.getElem_cons_zero, List.setIfInBounds_toArray, List.set_cons_zero, List.set_cons_succ]
  refine wpAnyH_take (i := 3) (v := ?_) rfl (by kernel_rfl) (by kernel_rfl) (by kernel_rfl) (fun _ _ _ h => h) (Or.inl ⟨by rfl, ?_⟩) (by assumption) ?_
  rotate_left
  · intro w hSw; (try dsimp only at hSw); go_simp; first | done | with_reducible rfl
  try simp only [Act.put, List.getElem_toArray, List.getElem_cons_succ, List.getElem_cons_zero, List.setIfInBounds_toArray, List.set_cons_zero, List.set_cons_succ]
  refine wpAnyH_take (i := 4) (v := ?_) rfl (by kernel_rfl) (by kernel_rfl) (by kernel_rfl) (fun _ _ _ h => h) (Or.inl ⟨by rfl, ?_⟩) (by assumption) ?_
  rotate_left
  · intro w hSw; (try dsimp only at hSw); go_simp; first | done | with_reducible rfl
  try simp only [Act.put, List.getElem_toArray, List.getElem_cons_succ, List.getElem_cons_zero, List.setIfInBounds_toArray, List.set_cons_zero, List.set_cons_succ]
  refine wpAnyH_take (i := 5) (v := ?_) rfl (by kernel_rfl) (by kernel_rfl) (by kernel_rfl) (fun _ _ _ h => h) (Or.inl ⟨by rfl, ?_⟩) (by assumption) ?_
  rotate_left
  · intro w hSw; (try dsimp only at hSw); go_simp; first | done | with_reducible rfl
  try simp only [Act.put, List.getElem_toArray, List.getElem_cons_succ, List.getElem_cons_zero, List.setIfInBounds_toArray, List.set_cons_zero, List.set_cons_succ]
  refine wpAnyH_take (i := 6) (v := ?_) rfl (by kernel_rfl) (by kernel_rfl) (by kernel_rfl) (fun _ _ _ h => h) (Or.inl ⟨by rfl, ?_⟩) (by assumption) ?_
  rotate_left
  · intro w hSw; (try dsimp only at hSw); go_simp; first | done | with_reducible rfl
  try simp only [Act.put, List.getElem_toArray, List.getElem_cons_succ, List.getElem_cons_zero, List.setIfInBounds_toArray, List.set_cons_zero, List.set_cons_succ]
  refine wpAnyH_ready (rs := [7]) (by kernel_rfl) (by simp) ?_
  refine AllReadyH.cons rfl (fun K hK => ?_) AllReadyH.nil
  go_simp
  (go_at_call 45; refine (in_any hrr _ _).mono ?_; rintro e w2 ⟨rfl, hF2⟩; (replace B := B.kept0 hF2); (replace kX := B.x.cell); (replace fX := B.x.free); (replace kB := B.b.cell); (replace kR := B.r.cell); (replace fR := B.r.free); (replace kH := B.H.cellsC (c := s.c) rfl))
  go_wp2_with fail
  refine hK.out _ _ (by exact ⟨B.b.cell 0, B.x.cell 3, B.H.blk.cell 1, B.H.blk.cell 2, B.H.blk.cell 3, B.H.blk.cell 4⟩) (fun hHeld => ?_)
  clear hK K
  try simp only [Act.put, List.getElem_toArray, List.getElem_cons_succ, List.getElem_cons_zero, List.setIfInBounds_toArray, List.set_cons_zero, List.set_cons_succ]
  refine wpAnyH_ready (rs := [8]) (by kernel_rfl) (by simp) ?_
  refine AllReadyH.cons rfl (fun K hK => ?_) AllReadyH.nil
  go_simp
  (go_at_call 126; refine (load_u hu B.H).mono ?_; rintro e w2 ⟨rfl, HH, hF2⟩; (replace B := B.hand HH hF2); clear HH; (replace kX := B.x.cell); (replace fX := B.x.free); (replace kB := B.b.cell); (replace kR := B.r.cell); (replace fR := B.r.free); (replace kH := B.H.cellsC (c := s.c) rfl))
  go_wp2_with fail
  refine hK.out _ _ (by exact ⟨B.b.cell 0, B.x.cell 3, B.H.blk.cell 1, B.H.blk.cell 2, B.H.blk.cell 3, B.H.blk.cell 4⟩) (fun hHeld => ?_)
  clear hK K
  try simp only [Act.put, List.getElem_toArray, List.getElem_cons_succ, List.getElem_cons_zero, List.setIfInBounds_toArray, List.set_cons_zero, List.set_cons_succ]
  refine wpAnyH_take (i := 9) (v := ?_) rfl (by kernel_rfl) (by kernel_rfl) (by kernel_rfl) (fun _ _ _ h => h) (Or.inl ⟨by rfl, ?_⟩) (by assumption) ?_
  rotate_left
  · intro w hSw; (try dsimp only at hSw); go_simp; first | done | with_reducible rfl
  try simp only [Act.put, List.getElem_toArray, List.getElem_cons_succ, List.getElem_cons_zero, List.setIfInBounds_toArray, List.set_cons_zero, List.set_cons_succ]
  refine wpAnyH_ready (rs := [10]) (by kernel_rfl) (by simp) ?_
  refine AllReadyH.cons rfl (fun K hK => ?_) AllReadyH.nil
  replace kX := B.x.cell
  replace fX := B.x.free
  replace kB := B.b.cell
  replace kR := B.r.cell
  replace fR := B.r.free
  replace kH := B.H.cellsC (c := s.c) rfl
  go_simp
  replace B := B.set 4 (.int .u64 u)
  refine hK.out _ _ (by exact ⟨B.b.cell 0, B.x.cell 3, B.H.blk.cell 1, B.H.blk.cell 2, B.H.blk.cell 3, B.H.blk.cell 4⟩) (fun hHeld => ?_)
  clear hK K
  try simp only [Act.put, List.getElem_toArray, List.getElem_cons_succ, List.getElem_cons_zero, List.setIfInBounds_toArray, List.set_cons_zero, List.set_cons_succ]
  refine wpAnyH_done (by kernel_rfl) ?_ _
  replace kX := B.x.cell
  replace fX := B.x.free
  replace kB := B.b.cell
  replace kR := B.r.cell
  replace fR := B.r.free
  replace kH := B.H.cellsC (c := s.c) rfl
  simp only [List.set_cons_zero, List.set_cons_succ] at B
  go_wp2_with (first | (go_at_call 43; refine (HSy.out _).mono ?_; rintro e w2 ⟨rfl, rfl⟩) | (go_at_call 141; (replace B := B.set 0 (.int .i64 16)); (replace B := B.set 4 (.int .u64 0)); simp only [List.set_cons_zero, List.set_cons_succ] at B; (have hpp := barpass_over (l1 := 10) (l2 := 11) B.b B.x B.H (by omega) (by omega) (by omega) (by omega) hm hlH.out); (refine hpp.mono ?_); clear hpp; rintro e w2 ⟨rfl, hX2, hF2⟩; (replace B := B.own hX2 hF2); clear hX2; (replace kX := B.x.cell); (replace fX := B.x.free); (replace kB := B.b.cell); (replace kR := B.r.cell); (replace fR := B.r.free); (replace kH := B.H.cellsC (c := s.c) rfl)))
  refine bodyPost_ret (v := .tuple #[.agg #[.int .i64 (11), .int .i64 (j), .int .i64 (c), .int .i64 (0), .int .u64 (0), .int .u64 (p), .bool (found), .int .i64 (tail), .int .i64 (cyc)], .bool false, .bool true]) (by simp [results, Try.results53, go_sem, kX, kR]) rfl ⟨rfl, ?_⟩
  exact B.done _ _ _ _ _ _ _ _ _


set_option maxRecDepth 100000 in
set_option maxHeartbeats 4000000 in
theorem ba102m {w : World} {h ab db : Nat} {s : HS} (H : HAt w h ab db s) (j c m a p tail cyc : Int) (found : Bool) (hm : -1000000 ≤ m ∧ m ≤ 1000000) (u k : Int) (hu : wAt s.ws (s.c.inP m) = u) (hk : u % 4 = k) (hu0 : 0 ≤ u) (hu1 : u < 18446744073709551616) (k0 : k = 2) (hl : m + 1 < s.c.muts) :
    Calls Try.prog 53 #[.pointer (some ⟨h, 0, none⟩), .agg #[.int .i64 (10), .int .i64 (j), .int .i64 (c), .int .i64 (m), .int .u64 (a), .int .u64 (p), .bool (found), .int .i64 (tail), .int .i64 (cyc)]] w fun e w' => e = .returned (.tuple #[.agg #[.int .i64 (10), .int .i64 (j), .int .i64 (c), .int .i64 (m + 1), .int .u64 (0), .int .u64 (p), .bool (found), .int .i64 (tail), .int .i64 (cyc)], .bool false, .bool true]) ∧ (HAt w' h ab db (s.doIt (aLoad (s.c.inP m))) ∧ Fr [h, db] w w') := by
  have hmf : ∀ (fn : Fn) (first cap : Array Value) (w : World), (Instr.makeFunc fn first cap).run Try.prog w = .ok (.func fn first cap) w := fun _ _ _ _ => rfl
  have B := CB.start H [.int .i64 (10), .int .i64 (j), .int .i64 (c), .int .i64 (m), .int .u64 (a), .int .u64 (p), .bool (found), .int .i64 (tail), .int .i64 (cyc)]
  have n0 := B.l1
  have n1 := B.l3
  have n2 := B.l2
  have hrr := H.right
  subst k0
  (try replace hl := hid hl)
  (try have hlH := hl)
  have HSy := hid (fun W => says_any u W hu0 hu1)
  rw [hk] at HSy

  clear H
  simp only [zCol] at B
  replace kX := B.x.cell
  replace fX := B.x.free
  replace kB := B.b.cell
  replace kR := B.r.cell
  replace fR := B.r.free
  replace kH := B.H.cellsC (c := s.c) rfl
  go_enter Try.func53, Try.ntmps53
  go_upto_region 7 with fail
  replace B := B.drew
  refine wp_region_held_drew (S := (fun (W : World) => W.cell? ⟨w.heap.size, 0, none⟩ = some (.pointer (some ⟨h, 0, none⟩)) ∧ W.cell? ⟨w.heap.size + 1, 3, none⟩ = some (.int .i64 m) ∧ W.cell? ⟨h, 1, none⟩ = some (.int .i64 s.c.cells) ∧ W.cell? ⟨h, 2, none⟩ = some (.int .i64 s.c.muts) ∧ W.cell? ⟨h, 3, none⟩ = some (.int .i64 s.c.regs) ∧ W.cell? ⟨h, 4, none⟩ = some (.int .i64 s.c.globs))) (by kernel_rfl) (by exact ⟨B.b.cell 0, B.x.cell 3, B.H.blk.cell 1, B.H.blk.cell 2, B.H.blk.cell 3, B.H.blk.cell 4⟩) (fun hHeld => ?_)
  refine wpAnyH_take (i := 0) (v := ?_) rfl (by kernel_rfl) (by kernel_rfl) (by kernel_rfl) (fun _ _ _ h => h) (Or.inl ⟨by rfl, ?_⟩) (by assumption) ?_
  rotate_left
  · intro w hSw; (try dsimp only at hSw); go_simp; first | done | with_reducible rfl
  try simp only [Act.put, List.getElem_toArray, List.getElem_cons_succ, List.getElem_cons_zero, List.setIfInBounds_toArray, List.set_cons_zero, List.set_cons_succ]
  refine wpAnyH_take (i := 1) (v := ?_) rfl (by kernel_rfl) (by kernel_rfl) (by kernel_rfl) (fun _ _ _ h => h) (Or.inl ⟨by rfl, ?_⟩) (by assumption) ?_
  rotate_left
  · intro w hSw; (try dsimp only at hSw); go_simp; first | done | with_reducible rfl
  try simp only [Act.put, List.getElem_toArray, List.getElem_cons_succ, List.getElem_cons_zero, List.setIfInBounds_toArray, List.set_cons_zero, List.set_cons_succ]
  refine wpAnyH_take (i := 2) (v := ?_) rfl (by kernel_rfl) (by kernel_rfl) (by kernel_rfl) (fun _ _ _ h => h) (Or.inl ⟨by rfl, ?_⟩) (by assumption) ?_
  rotate_left
  · intro w hSw; (try dsimp only at hSw); go_simp; first | done | with_reducible rfl
  try simp only [Act.put, List.getElem_toArray, List.getElem_cons_succ, List.getElem_cons_zero, List.setIfInBounds_toArray, List.set_cons_zero, List.set_cons_succ]
  refine wpAnyH_take (i := 3) (v := ?_) rfl (by kernel_rfl) (by kernel_rfl) (by kernel_rfl) (fun _ _ _ h => h) (Or.inl ⟨by rfl, ?_⟩) (by assumption) ?_
  rotate_left
  · intro w hSw; (try dsimp only at hSw); go_simp; first | done | with_reducible rfl
  try simp only [Act.put, List.getElem_toArray, List.getElem_cons_succ, List.getElem_cons_zero, List.setIfInBounds_toArray, List.set_cons_zero, List.set_cons_succ]
  refine wpAnyH_take (i := 4) (v := ?_) rfl (by kernel_rfl) (by kernel_rfl) (by kernel_rfl) (fun _ _ _ h => h) (Or.inl ⟨by rfl, ?_⟩) (by assumption) ?_
  rotate_left
  · intro w hSw; (try dsimp only at hSw); go_simp; first | done | with_reducible rfl
  try simp only [Act.put, List.getElem_toArray, List.getElem_cons_succ, List.getElem_cons_zero, List.setIfInBounds_toArray, List.set_cons_zero, List.set_cons_succ]
  refine wpAnyH_take (i := 5) (v := ?_) rfl (by kernel_rfl) (by kernel_rfl) (by kernel_rfl) (fun _ _ _ h => h) (Or.inl ⟨by rfl, ?_⟩) (by assumption) ?_
  rotate_left
  · intro w hSw; (try dsimp only at hSw); go_simp; first | done | with_reducible rfl
  try simp only [Act.put, List.getElem_toArray, List.getElem_cons_succ, List.getElem_cons_zero, List.setIfInBounds_toArray, List.set_cons_zero, List.set_cons_succ]
  refine wpAnyH_take (i := 6) (v := ?_) rfl (by kernel_rfl) (by kernel_rfl) (by kernel_rfl) (fun _ _ _ h => h) (Or.inl ⟨by rfl, ?_⟩) (by assumption) ?_
  rotate_left
  · intro w hSw; (try dsimp only at hSw); go_simp; first | done | with_reducible rfl
  try simp only [Act.put, List.getElem_toArray, List.getElem_cons_succ, List.getElem_cons_zero, List.setIfInBounds_toArray, List.set_cons_zero, List.set_cons_succ]
  refine wpAnyH_ready (rs := [7]) (by kernel_rfl) (by simp) ?_
  refine AllReadyH.cons rfl (fun K hK => ?_) AllReadyH.nil
  go_simp
  (go_at_call 45; refine (in_any hrr _ _).mono ?_; rintro e w2 ⟨rfl, hF2⟩; (replace B := B.kept0 hF2); (replace kX := B.x.cell); (replace fX := B.x.free); (replace kB := B.b.cell); (replace kR := B.r.cell); (replace fR := B.r.free); (replace kH := B.H.cellsC (c := s.c) rfl))
  go_wp2_with fail
  refine hK.out _ _ (by exact ⟨B.b.cell 0, B.x.cell 3, B.H.blk.cell 1, B.H.blk.cell 2, B.H.blk.cell 3, B.H.blk.cell 4⟩) (fun hHeld => ?_)
  clear hK K
  try simp only [Act.put, List.getElem_toArray, List.getElem_cons_succ, List.getElem_cons_zero, List.setIfInBounds_toArray, List.set_cons_zero, List.set_cons_succ]
  refine wpAnyH_ready (rs := [8]) (by kernel_rfl) (by simp) ?_
  refine AllReadyH.cons rfl (fun K hK => ?_) AllReadyH.nil
  go_simp
  (go_at_call 126; refine (load_u hu B.H).mono ?_; rintro e w2 ⟨rfl, HH, hF2⟩; (replace B := B.hand HH hF2); clear HH; (replace kX := B.x.cell); (replace fX := B.x.free); (replace kB := B.b.cell); (replace kR := B.r.cell); (replace fR := B.r.free); (replace kH := B.H.cellsC (c := s.c) rfl))
  go_wp2_with fail
  refine hK.out _ _ (by exact ⟨B.b.cell 0, B.x.cell 3, B.H.blk.cell 1, B.H.blk.cell 2, B.H.blk.cell 3, B.H.blk.cell 4⟩) (fun hHeld => ?_)
  clear hK K
  try simp only [Act.put, List.getElem_toArray, List.getElem_cons_succ, List.getElem_cons_zero, List.setIfInBounds_toArray, List.set_cons_zero, List.set_cons_succ]
  refine wpAnyH_take (i := 9) (v := ?_) rfl (by kernel_rfl) (by kernel_rfl) (by kernel_rfl) (fun _ _ _ h => h) (Or.inl ⟨by rfl, ?_⟩) (by assumption) ?_
  rotate_left
  · intro w hSw; (try dsimp only at hSw); go_simp; first | done | with_reducible rfl
  try simp only [Act.put, List.getElem_toArray, List.getElem_cons_succ, List.getElem_cons_zero, List.setIfInBounds_toArray, List.set_cons_zero, List.set_cons_succ]
  refine wpAnyH_ready (rs := [10]) (by kernel_rfl) (by simp) ?_
  refine AllReadyH.cons rfl (fun K hK => ?_) AllReadyH.nil
  replace kX := B.x.cell
  replace fX := B.x.free
  replace kB := B.b.cell
  replace kR := B.r.cell
  replace fR := B.r.free
  replace kH := B.H.cellsC (c := s.c) rfl
  go_simp
  replace B := B.set 4 (.int .u64 u)
  refine hK.out _ _ (by exact ⟨B.b.cell 0, B.x.cell 3, B.H.blk.cell 1, B.H.blk.cell 2, B.H.blk.cell 3, B.H.blk.cell 4⟩) (fun hHeld => ?_)
  clear hK K
  try simp only [Act.put, List.getElem_toArray, List.getElem_cons_succ, List.getElem_cons_zero, List.setIfInBounds_toArray, List.set_cons_zero, List.set_cons_succ]
  refine wpAnyH_done (by kernel_rfl) ?_ _
  replace kX := B.x.cell
  replace fX := B.x.free
  replace kB := B.b.cell
  replace kR := B.r.cell
  replace fR := B.r.free
  replace kH := B.H.cellsC (c := s.c) rfl
  simp only [List.set_cons_zero, List.set_cons_succ] at B
  go_wp2_with (first | (go_at_call 43; refine (HSy.out _).mono ?_; rintro e w2 ⟨rfl, rfl⟩) | (go_at_call 141; (replace B := B.set 0 (.int .i64 16)); (replace B := B.set 4 (.int .u64 0)); simp only [List.set_cons_zero, List.set_cons_succ] at B; (have hpp := barpass_more (l1 := 10) (l2 := 11) B.b B.x B.H (by omega) (by omega) (by omega) (by omega) hm hlH.out); (refine hpp.mono ?_); clear hpp; rintro e w2 ⟨rfl, hX2, hF2⟩; (replace B := B.own hX2 hF2); clear hX2; (replace kX := B.x.cell); (replace fX := B.x.free); (replace kB := B.b.cell); (replace kR := B.r.cell); (replace fR := B.r.free); (replace kH := B.H.cellsC (c := s.c) rfl)))
  refine bodyPost_ret (v := .tuple #[.agg #[.int .i64 (10), .int .i64 (j), .int .i64 (c), .int .i64 (m + 1), .int .u64 (0), .int .u64 (p), .bool (found), .int .i64 (tail), .int .i64 (cyc)], .bool false, .bool true]) (by simp [results, Try.results53, go_sem, kX, kR]) rfl ⟨rfl, ?_⟩
  exact B.done _ _ _ _ _ _ _ _ _


set_option maxRecDepth 100000 in
set_option maxHeartbeats 4000000 in
theorem ba102o {w : World} {h ab db : Nat} {s : HS} (H : HAt w h ab db s) (j c m a p tail cyc : Int) (found : Bool) (hm : -1000000 ≤ m ∧ m ≤ 1000000) (u k : Int) (hu : wAt s.ws (s.c.inP m) = u) (hk : u % 4 = k) (hu0 : 0 ≤ u) (hu1 : u < 18446744073709551616) (k0 : k = 2) (hl : s.c.muts ≤ m + 1) :
    Calls Try.prog 53 #[.pointer (some ⟨h, 0, none⟩), .agg #[.int .i64 (10), .int .i64 (j), .int .i64 (c), .int .i64 (m), .int .u64 (a), .int .u64 (p), .bool (found), .int .i64 (tail), .int .i64 (cyc)]] w fun e w' => e = .returned (.tuple #[.agg #[.int .i64 (11), .int .i64 (j), .int .i64 (c), .int .i64 (0), .int .u64 (0), .int .u64 (p), .bool (found), .int .i64 (tail), .int .i64 (cyc)], .bool false, .bool true]) ∧ (HAt w' h ab db (s.doIt (aLoad (s.c.inP m))) ∧ Fr [h, db] w w') := by
  have hmf : ∀ (fn : Fn) (first cap : Array Value) (w : World), (Instr.makeFunc fn first cap).run Try.prog w = .ok (.func fn first cap) w := fun _ _ _ _ => rfl
  have B := CB.start H [.int .i64 (10), .int .i64 (j), .int .i64 (c), .int .i64 (m), .int .u64 (a), .int .u64 (p), .bool (found), .int .i64 (tail), .int .i64 (cyc)]
  have n0 := B.l1
  have n1 := B.l3
  have n2 := B.l2
  have hrr := H.right
  subst k0
  (try replace hl := hid hl)
  (try have hlH := hl)
  have HSy := hid (fun W => says_any u W hu0 hu1)
  rw [hk] at HSy

  clear H
  simp only [zCol] at B
  replace kX := B.x.cell
  replace fX := B.x.free
  replace kB := B.b.cell
  replace kR := B.r.cell
  replace fR := B.r.free
  replace kH := B.H.cellsC (c := s.c) rfl
  go_enter Try.func53, Try.ntmps53
  go_upto_region 7 with fail
  replace B := B.drew
  refine wp_region_held_drew (S := (fun (W : World) => W.cell? ⟨w.heap.size, 0, none⟩ = some (.pointer (some ⟨h, 0, none⟩)) ∧ W.cell? ⟨w.heap.size + 1, 3, none⟩ = some (.int .i64 m) ∧ W.cell? ⟨h, 1, none⟩ = some (.int .i64 s.c.cells) ∧ W.cell? ⟨h, 2, none⟩ = some (.int .i64 s.c.muts) ∧ W.cell? ⟨h, 3, none⟩ = some (.int .i64 s.c.regs) ∧ W.cell? ⟨h, 4, none⟩ = some (.int .i64 s.c.globs))) (by kernel_rfl) (by exact ⟨B.b.cell 0, B.x.cell 3, B.H.blk.cell 1, B.H.blk.cell 2, B.H.blk.cell 3, B.H.blk.cell 4⟩) (fun hHeld => ?_)
  refine wpAnyH_take (i := 0) (v := ?_) rfl (by kernel_rfl) (by kernel_rfl) (by kernel_rfl) (fun _ _ _ h => h) (Or.inl ⟨by rfl, ?_⟩) (by assumption) ?_
  rotate_left
  · intro w hSw; (try dsimp only at hSw); go_simp; first | done | with_reducible rfl
  try simp only [Act.put, List.getElem_toArray, List.getElem_cons_succ, List.getElem_cons_zero, List.setIfInBounds_toArray, List.set_cons_zero, List.set_cons_succ]
  refine wpAnyH_take (i := 1) (v := ?_) rfl (by kernel_rfl) (by kernel_rfl) (by kernel_rfl) (fun _ _ _ h => h) (Or.inl ⟨by rfl, ?_⟩) (by assumption) ?_
  rotate_left
  · intro w hSw; (try dsimp only at hSw); go_simp; first | done | with_reducible rfl
  try simp only [Act.put, List.getElem_toArray, List.getElem_cons_succ, List.getElem_cons_zero, List.setIfInBounds_toArray, List.set_cons_zero, List.set_cons_succ]
  refine wpAnyH_take (i := 2) (v := ?_) rfl (by kernel_rfl) (by kernel_rfl) (by kernel_rfl) (fun _ _ _ h => h) (Or.inl ⟨by rfl, ?_⟩) (by assumption) ?_
  rotate_left
  · intro w hSw; (try dsimp only at hSw); go_simp; first | done | with_reducible rfl
  try simp only [Act.put, List.getElem_toArray, List.getElem_cons_succ, List.getElem_cons_zero, List.setIfInBounds_toArray, List.set_cons_zero, List.set_cons_succ]
  refine wpAnyH_take (i := 3) (v := ?_) rfl (by kernel_rfl) (by kernel_rfl) (by kernel_rfl) (fun _ _ _ h => h) (Or.inl ⟨by rfl, ?_⟩) (by assumption) ?_
  rotate_left
  · intro w hSw; (try dsimp only at hSw); go_simp; first | done | with_reducible rfl
  try simp only [Act.put, List.getElem_toArray, List.getElem_cons_succ, List.getElem_cons_zero, List.setIfInBounds_toArray, List.set_cons_zero, List.set_cons_succ]
  refine wpAnyH_take (i := 4) (v := ?_) rfl (by kernel_rfl) (by kernel_rfl) (by kernel_rfl) (fun _ _ _ h => h) (Or.inl ⟨by rfl, ?_⟩) (by assumption) ?_
  rotate_left
  · intro w hSw; (try dsimp only at hSw); go_simp; first | done | with_reducible rfl
  try simp only [Act.put, List.getElem_toArray, List.getElem_cons_succ, List.getElem_cons_zero, List.setIfInBounds_toArray, List.set_cons_zero, List.set_cons_succ]
  refine wpAnyH_take (i := 5) (v := ?_) rfl (by kernel_rfl) (by kernel_rfl) (by kernel_rfl) (fun _ _ _ h => h) (Or.inl ⟨by rfl, ?_⟩) (by assumption) ?_
  rotate_left
  · intro w hSw; (try dsimp only at hSw); go_simp; first | done | with_reducible rfl
  try simp only [Act.put, List.getElem_toArray, List.getElem_cons_succ, List.getElem_cons_zero, List.setIfInBounds_toArray, List.set_cons_zero, List.set_cons_succ]
  refine wpAnyH_take (i := 6) (v := ?_) rfl (by kernel_rfl) (by kernel_rfl) (by kernel_rfl) (fun _ _ _ h => h) (Or.inl ⟨by rfl, ?_⟩) (by assumption) ?_
  rotate_left
  · intro w hSw; (try dsimp only at hSw); go_simp; first | done | with_reducible rfl
  try simp only [Act.put, List.getElem_toArray, List.getElem_cons_succ, List.getElem_cons_zero, List.setIfInBounds_toArray, List.set_cons_zero, List.set_cons_succ]
  refine wpAnyH_ready (rs := [7]) (by kernel_rfl) (by simp) ?_
  refine AllReadyH.cons rfl (fun K hK => ?_) AllReadyH.nil
  go_simp
  (go_at_call 45; refine (in_any hrr _ _).mono ?_; rintro e w2 ⟨rfl, hF2⟩; (replace B := B.kept0 hF2); (replace kX := B.x.cell); (replace fX := B.x.free); (replace kB := B.b.cell); (replace kR := B.r.cell); (replace fR := B.r.free); (replace kH := B.H.cellsC (c := s.c) rfl))
  go_wp2_with fail
  refine hK.out _ _ (by exact ⟨B.b.cell 0, B.x.cell 3, B.H.blk.cell 1, B.H.blk.cell 2, B.H.blk.cell 3, B.H.blk.cell 4⟩) (fun hHeld => ?_)
  clear hK K
  try simp only [Act.put, List.getElem_toArray, List.getElem_cons_succ, List.getElem_cons_zero, List.setIfInBounds_toArray, List.set_cons_zero, List.set_cons_succ]
  refine wpAnyH_ready (rs := [8]) (by kernel_rfl) (by simp) ?_
  refine AllReadyH.cons rfl (fun K hK => ?_) AllReadyH.nil
  go_simp
  (go_at_call 126; refine (load_u hu B.H).mono ?_; rintro e w2 ⟨rfl, HH, hF2⟩; (replace B := B.hand HH hF2); clear HH; (replace kX := B.x.cell); (replace fX := B.x.free); (replace kB := B.b.cell); (replace kR := B.r.cell); (replace fR := B.r.free); (replace kH := B.H.cellsC (c := s.c) rfl))
  go_wp2_with fail
  refine hK.out _ _ (by exact ⟨B.b.cell 0, B.x.cell 3, B.H.blk.cell 1, B.H.blk.cell 2, B.H.blk.cell 3, B.H.blk.cell 4⟩) (fun hHeld => ?_)
  clear hK K
  try simp only [Act.put, List.getElem_toArray, List.getElem_cons_succ, List.getElem_cons_zero, List.setIfInBounds_toArray, List.set_cons_zero, List.set_cons_succ]
  refine wpAnyH_take (i := 9) (v := ?_) rfl (by kernel_rfl) (by kernel_rfl) (by kernel_rfl) (fun _ _ _ h => h) (Or.inl ⟨by rfl, ?_⟩) (by assumption) ?_
  rotate_left
  · intro w hSw; (try dsimp only at hSw); go_simp; first | done | with_reducible rfl
  try simp only [Act.put, List.getElem_toArray, List.getElem_cons_succ, List.getElem_cons_zero, List.setIfInBounds_toArray, List.set_cons_zero, List.set_cons_succ]
  refine wpAnyH_ready (rs := [10]) (by kernel_rfl) (by simp) ?_
  refine AllReadyH.cons rfl (fun K hK => ?_) AllReadyH.nil
  replace kX := B.x.cell
  replace fX := B.x.free
  replace kB := B.b.cell
  replace kR := B.r.cell
  replace fR := B.r.free
  replace kH := B.H.cellsC (c := s.c) rfl
  go_simp
  replace B := B.set 4 (.int .u64 u)
  refine hK.out _ _ (by exact ⟨B.b.cell 0, B.x.cell 3, B.H.blk.cell 1, B.H.blk.cell 2, B.H.blk.cell 3, B.H.blk.cell 4⟩) (fun hHeld => ?_)
  clear hK K
  try simp only [Act.put, List.getElem_toArray, List.getElem_cons_succ, List.getElem_cons_zero, List.setIfInBounds_toArray, List.set_cons_zero, List.set_cons_succ]
  refine wpAnyH_done (by kernel_rfl) ?_ _
  replace kX := B.x.cell
  replace fX := B.x.free
  replace kB := B.b.cell
  replace kR := B.r.cell
  replace fR := B.r.free
  replace kH := B.H.cellsC (c := s.c) rfl
  simp only [List.set_cons_zero, List.set_cons_succ] at B
  go_wp2_with (first | (go_at_call 43; refine (HSy.out _).mono ?_; rintro e w2 ⟨rfl, rfl⟩) | (go_at_call 141; (replace B := B.set 0 (.int .i64 16)); (replace B := B.set 4 (.int .u64 0)); simp only [List.set_cons_zero, List.set_cons_succ] at B; (have hpp := barpass_over (l1 := 10) (l2 := 11) B.b B.x B.H (by omega) (by omega) (by omega) (by omega) hm hlH.out); (refine hpp.mono ?_); clear hpp; rintro e w2 ⟨rfl, hX2, hF2⟩; (replace B := B.own hX2 hF2); clear hX2; (replace kX := B.x.cell); (replace fX := B.x.free); (replace kB := B.b.cell); (replace kR := B.r.cell); (replace fR := B.r.free); (replace kH := B.H.cellsC (c := s.c) rfl)))
  refine bodyPost_ret (v := .tuple #[.agg #[.int .i64 (11), .int .i64 (j), .int .i64 (c), .int .i64 (0), .int .u64 (0), .int .u64 (p), .bool (found), .int .i64 (tail), .int .i64 (cyc)], .bool false, .bool true]) (by simp [results, Try.results53, go_sem, kX, kR]) rfl ⟨rfl, ?_⟩
  exact B.done _ _ _ _ _ _ _ _ _


set_option maxRecDepth 100000 in
set_option maxHeartbeats 4000000 in
theorem ba10n {w : World} {h ab db : Nat} {s : HS} (H : HAt w h ab db s) (j c m a p tail cyc : Int) (found : Bool) (hm : -1000000 ≤ m ∧ m ≤ 1000000) (u k : Int) (hu : wAt s.ws (s.c.inP m) = u) (hk : u % 4 = k) (hu0 : 0 ≤ u) (hu1 : u < 18446744073709551616) (k0 : (k == 0) = false) (k2 : (k == 2) = false)  :
    Calls Try.prog 53 #[.pointer (some ⟨h, 0, none⟩), .agg #[.int .i64 (10), .int .i64 (j), .int .i64 (c), .int .i64 (m), .int .u64 (a), .int .u64 (p), .bool (found), .int .i64 (tail), .int .i64 (cyc)]] w fun e w' => e = .returned (.tuple #[.agg #[.int .i64 (16), .int .i64 (j), .int .i64 (c), .int .i64 (m), .int .u64 (u), .int .u64 (p), .bool (found), .int .i64 (tail), .int .i64 (cyc)], .bool false, .bool true]) ∧ (HAt w' h ab db (s.doIt (aLoad (s.c.inP m))) ∧ Fr [h, db] w w') := by
  have hmf : ∀ (fn : Fn) (first cap : Array Value) (w : World), (Instr.makeFunc fn first cap).run Try.prog w = .ok (.func fn first cap) w := fun _ _ _ _ => rfl
  have B := CB.start H [.int .i64 (10), .int .i64 (j), .int .i64 (c), .int .i64 (m), .int .u64 (a), .int .u64 (p), .bool (found), .int .i64 (tail), .int .i64 (cyc)]
  have n0 := B.l1
  have n1 := B.l3
  have n2 := B.l2
  have hrr := H.right
  (try replace hl := hid hl)
  (try have hlH := hl)
  have HSy := hid (fun W => says_any u W hu0 hu1)
  rw [hk] at HSy

  clear H
  simp only [zCol] at B
  replace kX := B.x.cell
  replace fX := B.x.free
  replace kB := B.b.cell
  replace kR := B.r.cell
  replace fR := B.r.free
  replace kH := B.H.cellsC (c := s.c) rfl
  go_enter Try.func53, Try.ntmps53
  go_upto_region 7 with fail
  replace B := B.drew
  refine wp_region_held_drew (S := (fun (W : World) => W.cell? ⟨w.heap.size, 0, none⟩ = some (.pointer (some ⟨h, 0, none⟩)) ∧ W.cell? ⟨w.heap.size + 1, 3, none⟩ = some (.int .i64 m) ∧ W.cell? ⟨h, 1, none⟩ = some (.int .i64 s.c.cells) ∧ W.cell? ⟨h, 2, none⟩ = some (.int .i64 s.c.muts) ∧ W.cell? ⟨h, 3, none⟩ = some (.int .i64 s.c.regs) ∧ W.cell? ⟨h, 4, none⟩ = some (.int .i64 s.c.globs))) (by kernel_rfl) (by exact ⟨B.b.cell 0, B.x.cell 3, B.H.blk.cell 1, B.H.blk.cell 2, B.H.blk.cell 3, B.H.blk.cell 4⟩) (fun hHeld => ?_)
  refine wpAnyH_take (i := 0) (v := ?_) rfl (by kernel_rfl) (by kernel_rfl) (by kernel_rfl) (fun _ _ _ h => h) (Or.inl ⟨by rfl, ?_⟩) (by assumption) ?_
  rotate_left
  · intro w hSw; (try dsimp only at hSw); go_simp; first | done | with_reducible rfl
  try simp only [Act.put, List.getElem_toArray, List.getElem_cons_succ, List.getElem_cons_zero, List.setIfInBounds_toArray, List.set_cons_zero, List.set_cons_succ]
  refine wpAnyH_take (i := 1) (v := ?_) rfl (by kernel_rfl) (by kernel_rfl) (by kernel_rfl) (fun _ _ _ h => h) (Or.inl ⟨by rfl, ?_⟩) (by assumption) ?_
  rotate_left
  · intro w hSw; (try dsimp only at hSw); go_simp; first | done | with_reducible rfl
  try simp only [Act.put, List.getElem_toArray, List.getElem_cons_succ, List.getElem_cons_zero, List.setIfInBounds_toArray, List.set_cons_zero, List.set_cons_succ]
  refine wpAnyH_take (i := 2) (v := ?_) rfl (by kernel_rfl) (by kernel_rfl) (by kernel_rfl) (fun _ _ _ h => h) (Or.inl ⟨by rfl, ?_⟩) (by assumption) ?_
  rotate_left
  · intro w hSw; (try dsimp only at hSw); go_simp; first | done | with_reducible rfl
  try simp only [Act.put, List.getElem_toArray, List.getElem_cons_succ, List.getElem_cons_zero, List.setIfInBounds_toArray, List.set_cons_zero, List.set_cons_succ]
  refine wpAnyH_take (i := 3) (v := ?_) rfl (by kernel_rfl) (by kernel_rfl) (by kernel_rfl) (fun _ _ _ h => h) (Or.inl ⟨by rfl, ?_⟩) (by assumption) ?_
  rotate_left
  · intro w hSw; (try dsimp only at hSw); go_simp; first | done | with_reducible rfl
  try simp only [Act.put, List.getElem_toArray, List.getElem_cons_succ, List.getElem_cons_zero, List.setIfInBounds_toArray, List.set_cons_zero, List.set_cons_succ]
  refine wpAnyH_take (i := 4) (v := ?_) rfl (by kernel_rfl) (by kernel_rfl) (by kernel_rfl) (fun _ _ _ h => h) (Or.inl ⟨by rfl, ?_⟩) (by assumption) ?_
  rotate_left
  · intro w hSw; (try dsimp only at hSw); go_simp; first | done | with_reducible rfl
  try simp only [Act.put, List.getElem_toArray, List.getElem_cons_succ, List.getElem_cons_zero, List.setIfInBounds_toArray, List.set_cons_zero, List.set_cons_succ]
  refine wpAnyH_take (i := 5) (v := ?_) rfl (by kernel_rfl) (by kernel_rfl) (by kernel_rfl) (fun _ _ _ h => h) (Or.inl ⟨by rfl, ?_⟩) (by assumption) ?_
  rotate_left
  · intro w hSw; (try dsimp only at hSw); go_simp; first | done | with_reducible rfl
  try simp only [Act.put, List.getElem_toArray, List.getElem_cons_succ, List.getElem_cons_zero, List.setIfInBounds_toArray, List.set_cons_zero, List.set_cons_succ]
  refine wpAnyH_take (i := 6) (v := ?_) rfl (by kernel_rfl) (by kernel_rfl) (by kernel_rfl) (fun _ _ _ h => h) (Or.inl ⟨by rfl, ?_⟩) (by assumption) ?_
  rotate_left
  · intro w hSw; (try dsimp only at hSw); go_simp; first | done | with_reducible rfl
  try simp only [Act.put, List.getElem_toArray, List.getElem_cons_succ, List.getElem_cons_zero, List.setIfInBounds_toArray, List.set_cons_zero, List.set_cons_succ]
  refine wpAnyH_ready (rs := [7]) (by kernel_rfl) (by simp) ?_
  refine AllReadyH.cons rfl (fun K hK => ?_) AllReadyH.nil
  go_simp
  (go_at_call 45; refine (in_any hrr _ _).mono ?_; rintro e w2 ⟨rfl, hF2⟩; (replace B := B.kept0 hF2); (replace kX := B.x.cell); (replace fX := B.x.free); (replace kB := B.b.cell); (replace kR := B.r.cell); (replace fR := B.r.free); (replace kH := B.H.cellsC (c := s.c) rfl))
  go_wp2_with fail
  refine hK.out _ _ (by exact ⟨B.b.cell 0, B.x.cell 3, B.H.blk.cell 1, B.H.blk.cell 2, B.H.blk.cell 3, B.H.blk.cell 4⟩) (fun hHeld => ?_)
  clear hK K
  try simp only [Act.put, List.getElem_toArray, List.getElem_cons_succ, List.getElem_cons_zero, List.setIfInBounds_toArray, List.set_cons_zero, List.set_cons_succ]
  refine wpAnyH_ready (rs := [8]) (by kernel_rfl) (by simp) ?_
  refine AllReadyH.cons rfl (fun K hK => ?_) AllReadyH.nil
  go_simp
  (go_at_call 126; refine (load_u hu B.H).mono ?_; rintro e w2 ⟨rfl, HH, hF2⟩; (replace B := B.hand HH hF2); clear HH; (replace kX := B.x.cell); (replace fX := B.x.free); (replace kB := B.b.cell); (replace kR := B.r.cell); (replace fR := B.r.free); (replace kH := B.H.cellsC (c := s.c) rfl))
  go_wp2_with fail
  refine hK.out _ _ (by exact ⟨B.b.cell 0, B.x.cell 3, B.H.blk.cell 1, B.H.blk.cell 2, B.H.blk.cell 3, B.H.blk.cell 4⟩) (fun hHeld => ?_)
  clear hK K
  try simp only [Act.put, List.getElem_toArray, List.getElem_cons_succ, List.getElem_cons_zero, List.setIfInBounds_toArray, List.set_cons_zero, List.set_cons_succ]
  refine wpAnyH_take (i := 9) (v := ?_) rfl (by kernel_rfl) (by kernel_rfl) (by kernel_rfl) (fun _ _ _ h => h) (Or.inl ⟨by rfl, ?_⟩) (by assumption) ?_
  rotate_left
  · intro w hSw; (try dsimp only at hSw); go_simp; first | done | with_reducible rfl
  try simp only [Act.put, List.getElem_toArray, List.getElem_cons_succ, List.getElem_cons_zero, List.setIfInBounds_toArray, List.set_cons_zero, List.set_cons_succ]
  refine wpAnyH_ready (rs := [10]) (by kernel_rfl) (by simp) ?_
  refine AllReadyH.cons rfl (fun K hK => ?_) AllReadyH.nil
  replace kX := B.x.cell
  replace fX := B.x.free
  replace kB := B.b.cell
  replace kR := B.r.cell
  replace fR := B.r.free
  replace kH := B.H.cellsC (c := s.c) rfl
  go_simp
  replace B := B.set 4 (.int .u64 u)
  refine hK.out _ _ (by exact ⟨B.b.cell 0, B.x.cell 3, B.H.blk.cell 1, B.H.blk.cell 2, B.H.blk.cell 3, B.H.blk.cell 4⟩) (fun hHeld => ?_)
  clear hK K
  try simp only [Act.put, List.getElem_toArray, List.getElem_cons_succ, List.getElem_cons_zero, List.setIfInBounds_toArray, List.set_cons_zero, List.set_cons_succ]
  refine wpAnyH_done (by kernel_rfl) ?_ _
  replace kX := B.x.cell
  replace fX := B.x.free
  replace kB := B.b.cell
  replace kR := B.r.cell
  replace fR := B.r.free
  replace kH := B.H.cellsC (c := s.c) rfl
  simp only [List.set_cons_zero, List.set_cons_succ] at B
  go_wp2_with (first | (go_at_call 43; refine (HSy.out _).mono ?_; rintro e w2 ⟨rfl, rfl⟩))
  replace B := B.set 0 (.int .i64 16)
  refine bodyPost_ret (v := .tuple #[.agg #[.int .i64 (16), .int .i64 (j), .int .i64 (c), .int .i64 (m), .int .u64 (u), .int .u64 (p), .bool (found), .int .i64 (tail), .int .i64 (cyc)], .bool false, .bool true]) (by simp [results, Try.results53, go_sem, kX, kR]) rfl ⟨rfl, ?_⟩
  exact B.done _ _ _ _ _ _ _ _ _


set_option maxRecDepth 100000 in
set_option maxHeartbeats 4000000 in
theorem ba16s {w : World} {h ab db : Nat} {s : HS} (H : HAt w h ab db s) (j c m a p tail cyc : Int) (found : Bool) (hm : -1000000 ≤ m ∧ m ≤ 1000000) (u k : Int) (hu : wAt s.ws (s.c.inP m) = u) (hk : u % 4 = k) (hu0 : 0 ≤ u) (hu1 : u < 18446744073709551616) (ha : (u == a) = true)  :
    Calls Try.prog 53 #[.pointer (some ⟨h, 0, none⟩), .agg #[.int .i64 (16), .int .i64 (j), .int .i64 (c), .int .i64 (m), .int .u64 (a), .int .u64 (p), .bool (found), .int .i64 (tail), .int .i64 (cyc)]] w fun e w' => e = .returned (.tuple #[.agg #[.int .i64 (16), .int .i64 (j), .int .i64 (c), .int .i64 (m), .int .u64 (a), .int .u64 (p), .bool (found), .int .i64 (tail), .int .i64 (cyc)], .bool false, .bool true]) ∧ (HAt w' h ab db (s.doIt (aLoad (s.c.inP m))) ∧ Fr [h, db] w w') := by
  have hmf : ∀ (fn : Fn) (first cap : Array Value) (w : World), (Instr.makeFunc fn first cap).run Try.prog w = .ok (.func fn first cap) w := fun _ _ _ _ => rfl
  have B := CB.start H [.int .i64 (16), .int .i64 (j), .int .i64 (c), .int .i64 (m), .int .u64 (a), .int .u64 (p), .bool (found), .int .i64 (tail), .int .i64 (cyc)]
  have n0 := B.l1
  have n1 := B.l3
  have n2 := B.l2
  have hrr := H.right
  (try replace hl := hid hl)
  (try have hlH := hl)
  have HSy := hid (fun W => says_any u W hu0 hu1)
  rw [hk] at HSy

  clear H
  simp only [zCol] at B
  replace kX := B.x.cell
  replace fX := B.x.free
  replace kB := B.b.cell
  replace kR := B.r.cell
  replace fR := B.r.free
  replace kH := B.H.cellsC (c := s.c) rfl
  go_enter Try.func53, Try.ntmps53
  go_upto_region 14 with fail
  replace B := B.drew
  refine wp_region_held_drew (S := (fun (W : World) => W.cell? ⟨w.heap.size, 0, none⟩ = some (.pointer (some ⟨h, 0, none⟩)) ∧ W.cell? ⟨w.heap.size + 1, 3, none⟩ = some (.int .i64 m) ∧ W.cell? ⟨h, 1, none⟩ = some (.int .i64 s.c.cells) ∧ W.cell? ⟨h, 2, none⟩ = some (.int .i64 s.c.muts) ∧ W.cell? ⟨h, 3, none⟩ = some (.int .i64 s.c.regs) ∧ W.cell? ⟨h, 4, none⟩ = some (.int .i64 s.c.globs))) (by kernel_rfl) (by exact ⟨B.b.cell 0, B.x.cell 3, B.H.blk.cell 1, B.H.blk.cell 2, B.H.blk.cell 3, B.H.blk.cell 4⟩) (fun hHeld => ?_)
  refine wpAnyH_take (i := 0) (v := ?_) rfl (by kernel_rfl) (by kernel_rfl) (by kernel_rfl) (fun _ _ _ h => h) (Or.inl ⟨by rfl, ?_⟩) (by assumption) ?_
  rotate_left
  · intro w hSw; (try dsimp only at hSw); go_simp; first | done | with_reducible rfl
  try simp only [Act.put, List.getElem_toArray, List.getElem_cons_succ, List.getElem_cons_zero, List.setIfInBounds_toArray, List.set_cons_zero, List.set_cons_succ]
  refine wpAnyH_take (i := 1) (v := ?_) rfl (by kernel_rfl) (by kernel_rfl) (by kernel_rfl) (fun _ _ _ h => h) (Or.inl ⟨by rfl, ?_⟩) (by assumption) ?_
  rotate_left
  · intro w hSw; (try dsimp only at hSw); go_simp; first | done | with_reducible rfl
  try simp only [Act.put, List.getElem_toArray, List.getElem_cons_succ, List.getElem_cons_zero, List.setIfInBounds_toArray, List.set_cons_zero, List.set_cons_succ]
  refine wpAnyH_take (i := 2) (v := ?_) rfl (by kernel_rfl) (by kernel_rfl) (by kernel_rfl) (fun _ _ _ h => h) (Or.inl ⟨by rfl, ?_⟩) (by assumption) ?_
  rotate_left
  · intro w hSw; (try dsimp only at hSw); go_simp; first | done | with_reducible rfl
  try simp only [Act.put, List.getElem_toArray, List.getElem_cons_succ, List.getElem_cons_zero, List.setIfInBounds_toArray, List.set_cons_zero, List.set_cons_succ]
  refine wpAnyH_take (i := 3) (v := ?_) rfl (by kernel_rfl) (by kernel_rfl) (by kernel_rfl) (fun _ _ _ h => h) (Or.inl ⟨by rfl, ?_⟩) (by assumption) ?_
  rotate_left
  · intro w hSw; (try dsimp only at hSw); go_simp; first | done | with_reducible rfl
  try simp only [Act.put, List.getElem_toArray, List.getElem_cons_succ, List.getElem_cons_zero, List.setIfInBounds_toArray, List.set_cons_zero, List.set_cons_succ]
  refine wpAnyH_take (i := 4) (v := ?_) rfl (by kernel_rfl) (by kernel_rfl) (by kernel_rfl) (fun _ _ _ h => h) (Or.inl ⟨by rfl, ?_⟩) (by assumption) ?_
  rotate_left
  · intro w hSw; (try dsimp only at hSw); go_simp; first | done | with_reducible rfl
  try simp only [Act.put, List.getElem_toArray, List.getElem_cons_succ, List.getElem_cons_zero, List.setIfInBounds_toArray, List.set_cons_zero, List.set_cons_succ]
  refine wpAnyH_take (i := 5) (v := ?_) rfl (by kernel_rfl) (by kernel_rfl) (by kernel_rfl) (fun _ _ _ h => h) (Or.inl ⟨by rfl, ?_⟩) (by assumption) ?_
  rotate_left
  · intro w hSw; (try dsimp only at hSw); go_simp; first | done | with_reducible rfl
  try simp only [Act.put, List.getElem_toArray, List.getElem_cons_succ, List.getElem_cons_zero, List.setIfInBounds_toArray, List.set_cons_zero, List.set_cons_succ]
  refine wpAnyH_take (i := 6) (v := ?_) rfl (by kernel_rfl) (by kernel_rfl) (by kernel_rfl) (fun _ _ _ h => h) (Or.inl ⟨by rfl, ?_⟩) (by assumption) ?_
  rotate_left
  · intro w hSw; (try dsimp only at hSw); go_simp; first | done | with_reducible rfl
  try simp only [Act.put, List.getElem_toArray, List.getElem_cons_succ, List.getElem_cons_zero, List.setIfInBounds_toArray, List.set_cons_zero, List.set_cons_succ]
  refine wpAnyH_ready (rs := [7]) (by kernel_rfl) (by simp) ?_
  refine AllReadyH.cons rfl (fun K hK => ?_) AllReadyH.nil
  go_simp
  (go_at_call 45; refine (in_any hrr _ _).mono ?_; rintro e w2 ⟨rfl, hF2⟩; (replace B := B.kept0 hF2); (replace kX := B.x.cell); (replace fX := B.x.free); (replace kB := B.b.cell); (replace kR := B.r.cell); (replace fR := B.r.free); (replace kH := B.H.cellsC (c := s.c) rfl))
  go_wp2_with fail
  refine hK.out _ _ (by exact ⟨B.b.cell 0, B.x.cell 3, B.H.blk.cell 1, B.H.blk.cell 2, B.H.blk.cell 3, B.H.blk.cell 4⟩) (fun hHeld => ?_)
  clear hK K
  try simp only [Act.put, List.getElem_toArray, List.getElem_cons_succ, List.getElem_cons_zero, List.setIfInBounds_toArray, List.set_cons_zero, List.set_cons_succ]
  refine wpAnyH_ready (rs := [8]) (by kernel_rfl) (by simp) ?_
  refine AllReadyH.cons rfl (fun K hK => ?_) AllReadyH.nil
  go_simp
  (go_at_call 126; refine (load_u hu B.H).mono ?_; rintro e w2 ⟨rfl, HH, hF2⟩; (replace B := B.hand HH hF2); clear HH; (replace kX := B.x.cell); (replace fX := B.x.free); (replace kB := B.b.cell); (replace kR := B.r.cell); (replace fR := B.r.free); (replace kH := B.H.cellsC (c := s.c) rfl))
  go_wp2_with fail
  refine hK.out _ _ (by exact ⟨B.b.cell 0, B.x.cell 3, B.H.blk.cell 1, B.H.blk.cell 2, B.H.blk.cell 3, B.H.blk.cell 4⟩) (fun hHeld => ?_)
  clear hK K
  try simp only [Act.put, List.getElem_toArray, List.getElem_cons_succ, List.getElem_cons_zero, List.setIfInBounds_toArray, List.set_cons_zero, List.set_cons_succ]
  refine wpAnyH_take (i := 9) (v := ?_) rfl (by kernel_rfl) (by kernel_rfl) (by kernel_rfl) (fun _ _ _ h => h) (Or.inl ⟨by rfl, ?_⟩) (by assumption) ?_
  rotate_left
  · intro w hSw; (try dsimp only at hSw); go_simp; first | done | with_reducible rfl
  try simp only [Act.put, List.getElem_toArray, List.getElem_cons_succ, List.getElem_cons_zero, List.setIfInBounds_toArray, List.set_cons_zero, List.set_cons_succ]
  refine wpAnyH_done (by kernel_rfl) ?_ _
  replace kX := B.x.cell
  replace fX := B.x.free
  replace kB := B.b.cell
  replace kR := B.r.cell
  replace fR := B.r.free
  replace kH := B.H.cellsC (c := s.c) rfl
  go_wp2_with (first | (go_at_call 43; refine (HSy.out _).mono ?_; rintro e w2 ⟨rfl, rfl⟩))
  refine bodyPost_ret (v := .tuple #[.agg #[.int .i64 (16), .int .i64 (j), .int .i64 (c), .int .i64 (m), .int .u64 (a), .int .u64 (p), .bool (found), .int .i64 (tail), .int .i64 (cyc)], .bool false, .bool true]) (by simp [results, Try.results53, go_sem, kX, kR]) rfl ⟨rfl, ?_⟩
  exact B.done _ _ _ _ _ _ _ _ _


set_option maxRecDepth 100000 in
set_option maxHeartbeats 4000000 in
theorem ba16w {w : World} {h ab db : Nat} {s : HS} (H : HAt w h ab db s) (j c m a p tail cyc : Int) (found : Bool) (hm : -1000000 ≤ m ∧ m ≤ 1000000) (u k : Int) (hu : wAt s.ws (s.c.inP m) = u) (hk : u % 4 = k) (hu0 : 0 ≤ u) (hu1 : u < 18446744073709551616) (ha : (u == a) = false) (k3 : (k == 3) = true)  :
    Calls Try.prog 53 #[.pointer (some ⟨h, 0, none⟩), .agg #[.int .i64 (16), .int .i64 (j), .int .i64 (c), .int .i64 (m), .int .u64 (a), .int .u64 (p), .bool (found), .int .i64 (tail), .int .i64 (cyc)]] w fun e w' => e = .returned (.tuple #[.agg #[.int .i64 (16), .int .i64 (j), .int .i64 (c), .int .i64 (m), .int .u64 (u), .int .u64 (p), .bool (found), .int .i64 (tail), .int .i64 (cyc)], .bool false, .bool true]) ∧ (HAt w' h ab db (s.doIt (aLoad (s.c.inP m))) ∧ Fr [h, db] w w') := by
  have hmf : ∀ (fn : Fn) (first cap : Array Value) (w : World), (Instr.makeFunc fn first cap).run Try.prog w = .ok (.func fn first cap) w := fun _ _ _ _ => rfl
  have B := CB.start H [.int .i64 (16), .int .i64 (j), .int .i64 (c), .int .i64 (m), .int .u64 (a), .int .u64 (p), .bool (found), .int .i64 (tail), .int .i64 (cyc)]
  have n0 := B.l1
  have n1 := B.l3
  have n2 := B.l2
  have hrr := H.right
  (try replace hl := hid hl)
  (try have hlH := hl)
  have HSy := hid (fun W => says_any u W hu0 hu1)
  rw [hk] at HSy

  clear H
  simp only [zCol] at B
  replace kX := B.x.cell
  replace fX := B.x.free
  replace kB := B.b.cell
  replace kR := B.r.cell
  replace fR := B.r.free
  replace kH := B.H.cellsC (c := s.c) rfl
  go_enter Try.func53, Try.ntmps53
  go_upto_region 14 with fail
  replace B := B.drew
  refine wp_region_held_drew (S := (fun (W : World) => W.cell? ⟨w.heap.size, 0, none⟩ = some (.pointer (some ⟨h, 0, none⟩)) ∧ W.cell? ⟨w.heap.size + 1, 3, none⟩ = some (.int .i64 m) ∧ W.cell? ⟨h, 1, none⟩ = some (.int .i64 s.c.cells) ∧ W.cell? ⟨h, 2, none⟩ = some (.int .i64 s.c.muts) ∧ W.cell? ⟨h, 3, none⟩ = some (.int .i64 s.c.regs) ∧ W.cell? ⟨h, 4, none⟩ = some (.int .i64 s.c.globs))) (by kernel_rfl) (by exact ⟨B.b.cell 0, B.x.cell 3, B.H.blk.cell 1, B.H.blk.cell 2, B.H.blk.cell 3, B.H.blk.cell 4⟩) (fun hHeld => ?_)
  refine wpAnyH_take (i := 0) (v := ?_) rfl (by kernel_rfl) (by kernel_rfl) (by kernel_rfl) (fun _ _ _ h => h) (Or.inl ⟨by rfl, ?_⟩) (by assumption) ?_
  rotate_left
  · intro w hSw; (try dsimp only at hSw); go_simp; first | done | with_reducible rfl
  try simp only [Act.put, List.getElem_toArray, List.getElem_cons_succ, List.getElem_cons_zero, List.setIfInBounds_toArray, List.set_cons_zero, List.set_cons_succ]
  refine wpAnyH_take (i := 1) (v := ?_) rfl (by kernel_rfl) (by kernel_rfl) (by kernel_rfl) (fun _ _ _ h => h) (Or.inl ⟨by rfl, ?_⟩) (by assumption) ?_
  rotate_left
  · intro w hSw; (try dsimp only at hSw); go_simp; first | done | with_reducible rfl
  try simp only [Act.put, List.getElem_toArray, List.getElem_cons_succ, List.getElem_cons_zero, List.setIfInBounds_toArray, List.set_cons_zero, List.set_cons_succ]
  refine wpAnyH_take (i := 2) (v := ?_) rfl (by kernel_rfl) (by kernel_rfl) (by kernel_rfl) (fun _ _ _ h => h) (Or.inl ⟨by rfl, ?_⟩) (by assumption) ?_
  rotate_left
  · intro w hSw; (try dsimp only at hSw); go_simp; first | done | with_reducible rfl
  try simp only [Act.put, List.getElem_toArray, List.getElem_cons_succ, List.getElem_cons_zero, List.setIfInBounds_toArray, List.set_cons_zero, List.set_cons_succ]
  refine wpAnyH_take (i := 3) (v := ?_) rfl (by kernel_rfl) (by kernel_rfl) (by kernel_rfl) (fun _ _ _ h => h) (Or.inl ⟨by rfl, ?_⟩) (by assumption) ?_
  rotate_left
  · intro w hSw; (try dsimp only at hSw); go_simp; first | done | with_reducible rfl
  try simp only [Act.put, List.getElem_toArray, List.getElem_cons_succ, List.getElem_cons_zero, List.setIfInBounds_toArray, List.set_cons_zero, List.set_cons_succ]
  refine wpAnyH_take (i := 4) (v := ?_) rfl (by kernel_rfl) (by kernel_rfl) (by kernel_rfl) (fun _ _ _ h => h) (Or.inl ⟨by rfl, ?_⟩) (by assumption) ?_
  rotate_left
  · intro w hSw; (try dsimp only at hSw); go_simp; first | done | with_reducible rfl
  try simp only [Act.put, List.getElem_toArray, List.getElem_cons_succ, List.getElem_cons_zero, List.setIfInBounds_toArray, List.set_cons_zero, List.set_cons_succ]
  refine wpAnyH_take (i := 5) (v := ?_) rfl (by kernel_rfl) (by kernel_rfl) (by kernel_rfl) (fun _ _ _ h => h) (Or.inl ⟨by rfl, ?_⟩) (by assumption) ?_
  rotate_left
  · intro w hSw; (try dsimp only at hSw); go_simp; first | done | with_reducible rfl
  try simp only [Act.put, List.getElem_toArray, List.getElem_cons_succ, List.getElem_cons_zero, List.setIfInBounds_toArray, List.set_cons_zero, List.set_cons_succ]
  refine wpAnyH_take (i := 6) (v := ?_) rfl (by kernel_rfl) (by kernel_rfl) (by kernel_rfl) (fun _ _ _ h => h) (Or.inl ⟨by rfl, ?_⟩) (by assumption) ?_
  rotate_left
  · intro w hSw; (try dsimp only at hSw); go_simp; first | done | with_reducible rfl
  try simp only [Act.put, List.getElem_toArray, List.getElem_cons_succ, List.getElem_cons_zero, List.setIfInBounds_toArray, List.set_cons_zero, List.set_cons_succ]
  refine wpAnyH_ready (rs := [7]) (by kernel_rfl) (by simp) ?_
  refine AllReadyH.cons rfl (fun K hK => ?_) AllReadyH.nil
  go_simp
  (go_at_call 45; refine (in_any hrr _ _).mono ?_; rintro e w2 ⟨rfl, hF2⟩; (replace B := B.kept0 hF2); (replace kX := B.x.cell); (replace fX := B.x.free); (replace kB := B.b.cell); (replace kR := B.r.cell); (replace fR := B.r.free); (replace kH := B.H.cellsC (c := s.c) rfl))
  go_wp2_with fail
  refine hK.out _ _ (by exact ⟨B.b.cell 0, B.x.cell 3, B.H.blk.cell 1, B.H.blk.cell 2, B.H.blk.cell 3, B.H.blk.cell 4⟩) (fun hHeld => ?_)
  clear hK K
  try simp only [Act.put, List.getElem_toArray, List.getElem_cons_succ, List.getElem_cons_zero, List.setIfInBounds_toArray, List.set_cons_zero, List.set_cons_succ]
  refine wpAnyH_ready (rs := [8]) (by kernel_rfl) (by simp) ?_
  refine AllReadyH.cons rfl (fun K hK => ?_) AllReadyH.nil
  go_simp
  (go_at_call 126; refine (load_u hu B.H).mono ?_; rintro e w2 ⟨rfl, HH, hF2⟩; (replace B := B.hand HH hF2); clear HH; (replace kX := B.x.cell); (replace fX := B.x.free); (replace kB := B.b.cell); (replace kR := B.r.cell); (replace fR := B.r.free); (replace kH := B.H.cellsC (c := s.c) rfl))
  go_wp2_with fail
  refine hK.out _ _ (by exact ⟨B.b.cell 0, B.x.cell 3, B.H.blk.cell 1, B.H.blk.cell 2, B.H.blk.cell 3, B.H.blk.cell 4⟩) (fun hHeld => ?_)
  clear hK K
  try simp only [Act.put, List.getElem_toArray, List.getElem_cons_succ, List.getElem_cons_zero, List.setIfInBounds_toArray, List.set_cons_zero, List.set_cons_succ]
  refine wpAnyH_take (i := 9) (v := ?_) rfl (by kernel_rfl) (by kernel_rfl) (by kernel_rfl) (fun _ _ _ h => h) (Or.inl ⟨by rfl, ?_⟩) (by assumption) ?_
  rotate_left
  · intro w hSw; (try dsimp only at hSw); go_simp; first | done | with_reducible rfl
  try simp only [Act.put, List.getElem_toArray, List.getElem_cons_succ, List.getElem_cons_zero, List.setIfInBounds_toArray, List.set_cons_zero, List.set_cons_succ]
  refine wpAnyH_done (by kernel_rfl) ?_ _
  replace kX := B.x.cell
  replace fX := B.x.free
  replace kB := B.b.cell
  replace kR := B.r.cell
  replace fR := B.r.free
  replace kH := B.H.cellsC (c := s.c) rfl
  go_wp2_with (first | (go_at_call 43; refine (HSy.out _).mono ?_; rintro e w2 ⟨rfl, rfl⟩))
  replace B := B.set 4 (.int .u64 u)
  refine bodyPost_ret (v := .tuple #[.agg #[.int .i64 (16), .int .i64 (j), .int .i64 (c), .int .i64 (m), .int .u64 (u), .int .u64 (p), .bool (found), .int .i64 (tail), .int .i64 (cyc)], .bool false, .bool true]) (by simp [results, Try.results53, go_sem, kX, kR]) rfl ⟨rfl, ?_⟩
  exact B.done _ _ _ _ _ _ _ _ _


set_option maxRecDepth 100000 in
set_option maxHeartbeats 4000000 in
theorem ba16m {w : World} {h ab db : Nat} {s : HS} (H : HAt w h ab db s) (j c m a p tail cyc : Int) (found : Bool) (hm : -1000000 ≤ m ∧ m ≤ 1000000) (u k : Int) (hu : wAt s.ws (s.c.inP m) = u) (hk : u % 4 = k) (hu0 : 0 ≤ u) (hu1 : u < 18446744073709551616) (ha : (u == a) = false) (k3 : (k == 3) = false) (hl : m + 1 < s.c.muts) :
    Calls Try.prog 53 #[.pointer (some ⟨h, 0, none⟩), .agg #[.int .i64 (16), .int .i64 (j), .int .i64 (c), .int .i64 (m), .int .u64 (a), .int .u64 (p), .bool (found), .int .i64 (tail), .int .i64 (cyc)]] w fun e w' => e = .returned (.tuple #[.agg #[.int .i64 (10), .int .i64 (j), .int .i64 (c), .int .i64 (m + 1), .int .u64 (0), .int .u64 (p), .bool (found), .int .i64 (tail), .int .i64 (cyc)], .bool false, .bool true]) ∧ (HAt w' h ab db (s.doIt (aLoad (s.c.inP m))) ∧ Fr [h, db] w w') := by
  have hmf : ∀ (fn : Fn) (first cap : Array Value) (w : World), (Instr.makeFunc fn first cap).run Try.prog w = .ok (.func fn first cap) w := fun _ _ _ _ => rfl
  have B := CB.start H [.int .i64 (16), .int .i64 (j), .int .i64 (c), .int .i64 (m), .int .u64 (a), .int .u64 (p), .bool (found), .int .i64 (tail), .int .i64 (cyc)]
  have n0 := B.l1
  have n1 := B.l3
  have n2 := B.l2
  have hrr := H.right
  (try replace hl := hid hl)
  (try have hlH := hl)
  have HSy := hid (fun W => says_any u W hu0 hu1)
  rw [hk] at HSy

  clear H
  simp only [zCol] at B
  replace kX := B.x.cell
  replace fX := B.x.free
  replace kB := B.b.cell
  replace kR := B.r.cell
  replace fR := B.r.free
  replace kH := B.H.cellsC (c := s.c) rfl
  go_enter Try.func53, Try.ntmps53
  go_upto_region 14 with fail
  replace B := B.drew
  refine wp_region_held_drew (S := (fun (W : World) => W.cell? ⟨w.heap.size, 0, none⟩ = some (.pointer (some ⟨h, 0, none⟩)) ∧ W.cell? ⟨w.heap.size + 1, 3, none⟩ = some (.int .i64 m) ∧ W.cell? ⟨h, 1, none⟩ = some (.int .i64 s.c.cells) ∧ W.cell? ⟨h, 2, none⟩ = some (.int .i64 s.c.muts) ∧ W.cell? ⟨h, 3, none⟩ = some (.int .i64 s.c.regs) ∧ W.cell? ⟨h, 4, none⟩ = some (.int .i64 s.c.globs))) (by kernel_rfl) (by exact ⟨B.b.cell 0, B.x.cell 3, B.H.blk.cell 1, B.H.blk.cell 2, B.H.blk.cell 3, B.H.blk.cell 4⟩) (fun hHeld => ?_)
  refine wpAnyH_take (i := 0) (v := ?_) rfl (by kernel_rfl) (by kernel_rfl) (by kernel_rfl) (fun _ _ _ h => h) (Or.inl ⟨by rfl, ?_⟩) (by assumption) ?_
  rotate_left
  · intro w hSw; (try dsimp only at hSw); go_simp; first | done | with_reducible rfl
  try simp only [Act.put, List.getElem_toArray, List.getElem_cons_succ, List.getElem_cons_zero, List.setIfInBounds_toArray, List.set_cons_zero, List.set_cons_succ]
  refine wpAnyH_take (i := 1) (v := ?_) rfl (by kernel_rfl) (by kernel_rfl) (by kernel_rfl) (fun _ _ _ h => h) (Or.inl ⟨by rfl, ?_⟩) (by assumption) ?_
  rotate_left
  · intro w hSw; (try dsimp only at hSw); go_simp; first | done | with_reducible rfl
  try simp only [Act.put, List.getElem_toArray, List.getElem_cons_succ, List.getElem_cons_zero, List.setIfInBounds_toArray, List.set_cons_zero, List.set_cons_succ]
  refine wpAnyH_take (i := 2) (v := ?_) rfl (by kernel_rfl) (by kernel_rfl) (by kernel_rfl) (fun _ _ _ h => h) (Or.inl ⟨by rfl, ?_⟩) (by assumption) ?_
  rotate_left
  · intro w hSw; (try dsimp only at hSw); go_simp; first | done | with_reducible rfl
  try simp only [Act.put, List.getElem_toArray, List.getElem_cons_succ, List.getElem_cons_zero, List.setIfInBounds_toArray, List.set_cons_zero, List.set_cons_succ]
  refine wpAnyH_take (i := 3) (v := ?_) rfl (by kernel_rfl) (by kernel_rfl) (by kernel_rfl) (fun _ _ _ h => h) (Or.inl ⟨by rfl, ?_⟩) (by assumption) ?_
  rotate_left
  · intro w hSw; (try dsimp only at hSw); go_simp; first | done | with_reducible rfl
  try simp only [Act.put, List.getElem_toArray, List.getElem_cons_succ, List.getElem_cons_zero, List.setIfInBounds_toArray, List.set_cons_zero, List.set_cons_succ]
  refine wpAnyH_take (i := 4) (v := ?_) rfl (by kernel_rfl) (by kernel_rfl) (by kernel_rfl) (fun _ _ _ h => h) (Or.inl ⟨by rfl, ?_⟩) (by assumption) ?_
  rotate_left
  · intro w hSw; (try dsimp only at hSw); go_simp; first | done | with_reducible rfl
  try simp only [Act.put, List.getElem_toArray, List.getElem_cons_succ, List.getElem_cons_zero, List.setIfInBounds_toArray, List.set_cons_zero, List.set_cons_succ]
  refine wpAnyH_take (i := 5) (v := ?_) rfl (by kernel_rfl) (by kernel_rfl) (by kernel_rfl) (fun _ _ _ h => h) (Or.inl ⟨by rfl, ?_⟩) (by assumption) ?_
  rotate_left
  · intro w hSw; (try dsimp only at hSw); go_simp; first | done | with_reducible rfl
  try simp only [Act.put, List.getElem_toArray, List.getElem_cons_succ, List.getElem_cons_zero, List.setIfInBounds_toArray, List.set_cons_zero, List.set_cons_succ]
  refine wpAnyH_take (i := 6) (v := ?_) rfl (by kernel_rfl) (by kernel_rfl) (by kernel_rfl) (fun _ _ _ h => h) (Or.inl ⟨by rfl, ?_⟩) (by assumption) ?_
  rotate_left
  · intro w hSw; (try dsimp only at hSw); go_simp; first | done | with_reducible rfl
  try simp only [Act.put, List.getElem_toArray, List.getElem_cons_succ, List.getElem_cons_zero, List.setIfInBounds_toArray, List.set_cons_zero, List.set_cons_succ]
  refine wpAnyH_ready (rs := [7]) (by kernel_rfl) (by simp) ?_
  refine AllReadyH.cons rfl (fun K hK => ?_) AllReadyH.nil
  go_simp
  (go_at_call 45; refine (in_any hrr _ _).mono ?_; rintro e w2 ⟨rfl, hF2⟩; (replace B := B.kept0 hF2); (replace kX := B.x.cell); (replace fX := B.x.free); (replace kB := B.b.cell); (replace kR := B.r.cell); (replace fR := B.r.free); (replace kH := B.H.cellsC (c := s.c) rfl))
  go_wp2_with fail
  refine hK.out _ _ (by exact ⟨B.b.cell 0, B.x.cell 3, B.H.blk.cell 1, B.H.blk.cell 2, B.H.blk.cell 3, B.H.blk.cell 4⟩) (fun hHeld => ?_)
  clear hK K
  try simp only [Act.put, List.getElem_toArray, List.getElem_cons_succ, List.getElem_cons_zero, List.setIfInBounds_toArray, List.set_cons_zero, List.set_cons_succ]
  refine wpAnyH_ready (rs := [8]) (by kernel_rfl) (by simp) ?_
  refine AllReadyH.cons rfl (fun K hK => ?_) AllReadyH.nil
  go_simp
  (go_at_call 126; refine (load_u hu B.H).mono ?_; rintro e w2 ⟨rfl, HH, hF2⟩; (replace B := B.hand HH hF2); clear HH; (replace kX := B.x.cell); (replace fX := B.x.free); (replace kB := B.b.cell); (replace kR := B.r.cell); (replace fR := B.r.free); (replace kH := B.H.cellsC (c := s.c) rfl))
  go_wp2_with fail
  refine hK.out _ _ (by exact ⟨B.b.cell 0, B.x.cell 3, B.H.blk.cell 1, B.H.blk.cell 2, B.H.blk.cell 3, B.H.blk.cell 4⟩) (fun hHeld => ?_)
  clear hK K
  try simp only [Act.put, List.getElem_toArray, List.getElem_cons_succ, List.getElem_cons_zero, List.setIfInBounds_toArray, List.set_cons_zero, List.set_cons_succ]
  refine wpAnyH_take (i := 9) (v := ?_) rfl (by kernel_rfl) (by kernel_rfl) (by kernel_rfl) (fun _ _ _ h => h) (Or.inl ⟨by rfl, ?_⟩) (by assumption) ?_
  rotate_left
  · intro w hSw; (try dsimp only at hSw); go_simp; first | done | with_reducible rfl
  try simp only [Act.put, List.getElem_toArray, List.getElem_cons_succ, List.getElem_cons_zero, List.setIfInBounds_toArray, List.set_cons_zero, List.set_cons_succ]
  refine wpAnyH_done (by kernel_rfl) ?_ _
  replace kX := B.x.cell
  replace fX := B.x.free
  replace kB := B.b.cell
  replace kR := B.r.cell
  replace fR := B.r.free
  replace kH := B.H.cellsC (c := s.c) rfl
  go_wp2_with (first | (go_at_call 43; refine (HSy.out _).mono ?_; rintro e w2 ⟨rfl, rfl⟩) | (go_at_call 141; (replace B := B.set 4 (.int .u64 0)); simp only [List.set_cons_zero, List.set_cons_succ] at B; (have hpp := barpass_more (l1 := 10) (l2 := 11) B.b B.x B.H (by omega) (by omega) (by omega) (by omega) hm hlH.out); (refine hpp.mono ?_); clear hpp; rintro e w2 ⟨rfl, hX2, hF2⟩; (replace B := B.own hX2 hF2); clear hX2; (replace kX := B.x.cell); (replace fX := B.x.free); (replace kB := B.b.cell); (replace kR := B.r.cell); (replace fR := B.r.free); (replace kH := B.H.cellsC (c := s.c) rfl)))
  refine bodyPost_ret (v := .tuple #[.agg #[.int .i64 (10), .int .i64 (j), .int .i64 (c), .int .i64 (m + 1), .int .u64 (0), .int .u64 (p), .bool (found), .int .i64 (tail), .int .i64 (cyc)], .bool false, .bool true]) (by simp [results, Try.results53, go_sem, kX, kR]) rfl ⟨rfl, ?_⟩
  exact B.done _ _ _ _ _ _ _ _ _


set_option maxRecDepth 100000 in
set_option maxHeartbeats 4000000 in
theorem ba16o {w : World} {h ab db : Nat} {s : HS} (H : HAt w h ab db s) (j c m a p tail cyc : Int) (found : Bool) (hm : -1000000 ≤ m ∧ m ≤ 1000000) (u k : Int) (hu : wAt s.ws (s.c.inP m) = u) (hk : u % 4 = k) (hu0 : 0 ≤ u) (hu1 : u < 18446744073709551616) (ha : (u == a) = false) (k3 : (k == 3) = false) (hl : s.c.muts ≤ m + 1) :
    Calls Try.prog 53 #[.pointer (some ⟨h, 0, none⟩), .agg #[.int .i64 (16), .int .i64 (j), .int .i64 (c), .int .i64 (m), .int .u64 (a), .int .u64 (p), .bool (found), .int .i64 (tail), .int .i64 (cyc)]] w fun e w' => e = .returned (.tuple #[.agg #[.int .i64 (11), .int .i64 (j), .int .i64 (c), .int .i64 (0), .int .u64 (0), .int .u64 (p), .bool (found), .int .i64 (tail), .int .i64 (cyc)], .bool false, .bool true]) ∧ (HAt w' h ab db (s.doIt (aLoad (s.c.inP m))) ∧ Fr [h, db] w w') := by
  have hmf : ∀ (fn : Fn) (first cap : Array Value) (w : World), (Instr.makeFunc fn first cap).run Try.prog w = .ok (.func fn first cap) w := fun _ _ _ _ => rfl
  have B := CB.start H [.int .i64 (16), .int .i64 (j), .int .i64 (c), .int .i64 (m), .int .u64 (a), .int .u64 (p), .bool (found), .int .i64 (tail), .int .i64 (cyc)]
  have n0 := B.l1
  have n1 := B.l3
  have n2 := B.l2
  have hrr := H.right
  (try replace hl := hid hl)
  (try have hlH := hl)
  have HSy := hid (fun W => says_any u W hu0 hu1)
  rw [hk] at HSy

  clear H
  simp only [zCol] at B
  replace kX := B.x.cell
  replace fX := B.x.free
  replace kB := B.b.cell
  replace kR := B.r.cell
  replace fR := B.r.free
  replace kH := B.H.cellsC (c := s.c) rfl
  go_enter Try.func53, Try.ntmps53
  go_upto_region 14 with fail
  replace B := B.drew
  refine wp_region_held_drew (S := (fun (W : World) => W.cell? ⟨w.heap.size, 0, none⟩ = some (.pointer (some ⟨h, 0, none⟩)) ∧ W.cell? ⟨w.heap.size + 1, 3, none⟩ = some (.int .i64 m) ∧ W.cell? ⟨h, 1, none⟩ = some (.int .i64 s.c.cells) ∧ W.cell? ⟨h, 2, none⟩ = some (.int .i64 s.c.muts) ∧ W.cell? ⟨h, 3, none⟩ = some (.int .i64 s.c.regs) ∧ W.cell? ⟨h, 4, none⟩ = some (.int .i64 s.c.globs))) (by kernel_rfl) (by exact ⟨B.b.cell 0, B.x.cell 3, B.H.blk.cell 1, B.H.blk.cell 2, B.H.blk.cell 3, B.H.blk.cell 4⟩) (fun hHeld => ?_)
  refine wpAnyH_take (i := 0) (v := ?_) rfl (by kernel_rfl) (by kernel_rfl) (by kernel_rfl) (fun _ _ _ h => h) (Or.inl ⟨by rfl, ?_⟩) (by assumption) ?_
  rotate_left
  · intro w hSw; (try dsimp only at hSw); go_simp; first | done | with_reducible rfl
  try simp only [Act.put, List.getElem_toArray, List.getElem_cons_succ, List.getElem_cons_zero, List.setIfInBounds_toArray, List.set_cons_zero, List.set_cons_succ]
  refine wpAnyH_take (i := 1) (v := ?_) rfl (by kernel_rfl) (by kernel_rfl) (by kernel_rfl) (fun _ _ _ h => h) (Or.inl ⟨by rfl, ?_⟩) (by assumption) ?_
  rotate_left
  · intro w hSw; (try dsimp only at hSw); go_simp; first | done | with_reducible rfl
  try simp only [Act.put, List.getElem_toArray, List.getElem_cons_succ, List.getElem_cons_zero, List.setIfInBounds_toArray, List.set_cons_zero, List.set_cons_succ]
  refine wpAnyH_take (i := 2) (v := ?_) rfl (by kernel_rfl) (by kernel_rfl) (by kernel_rfl) (fun _ _ _ h => h) (Or.inl ⟨by rfl, ?_⟩) (by assumption) ?_
  rotate_left
  · intro w hSw; (try dsimp only at hSw); go_simp; first | done | with_reducible rfl
  try simp only [Act.put, List.getElem_toArray, List.getElem_cons_succ, List.getElem_cons_zero, List.setIfInBounds_toArray, List.set_cons_zero, List.set_cons_succ]
  refine wpAnyH_take (i := 3) (v := ?_) rfl (by kernel_rfl) (by kernel_rfl) (by kernel_rfl) (fun _ _ _ h => h) (Or.inl ⟨by rfl, ?_⟩) (by assumption) ?_
  rotate_left
  · intro w hSw; (try dsimp only at hSw); go_simp; first | done | with_reducible rfl
  try simp only [Act.put, List.getElem_toArray, List.getElem_cons_succ, List.getElem_cons_zero, List.setIfInBounds_toArray, List.set_cons_zero, List.set_cons_succ]
  refine wpAnyH_take (i := 4) (v := ?_) rfl (by kernel_rfl) (by kernel_rfl) (by kernel_rfl) (fun _ _ _ h => h) (Or.inl ⟨by rfl, ?_⟩) (by assumption) ?_
  rotate_left
  · intro w hSw; (try dsimp only at hSw); go_simp; first | done | with_reducible rfl
  try simp only [Act.put, List.getElem_toArray, List.getElem_cons_succ, List.getElem_cons_zero, List.setIfInBounds_toArray, List.set_cons_zero, List.set_cons_succ]
  refine wpAnyH_take (i := 5) (v := ?_) rfl (by kernel_rfl) (by kernel_rfl) (by kernel_rfl) (fun _ _ _ h => h) (Or.inl ⟨by rfl, ?_⟩) (by assumption) ?_
  rotate_left
  · intro w hSw; (try dsimp only at hSw); go_simp; first | done | with_reducible rfl
  try simp only [Act.put, List.getElem_toArray, List.getElem_cons_succ, List.getElem_cons_zero, List.setIfInBounds_toArray, List.set_cons_zero, List.set_cons_succ]
  refine wpAnyH_take (i := 6) (v := ?_) rfl (by kernel_rfl) (by kernel_rfl) (by kernel_rfl) (fun _ _ _ h => h) (Or.inl ⟨by rfl, ?_⟩) (by assumption) ?_
  rotate_left
  · intro w hSw; (try dsimp only at hSw); go_simp; first | done | with_reducible rfl
  try simp only [Act.put, List.getElem_toArray, List.getElem_cons_succ, List.getElem_cons_zero, List.setIfInBounds_toArray, List.set_cons_zero, List.set_cons_succ]
  refine wpAnyH_ready (rs := [7]) (by kernel_rfl) (by simp) ?_
  refine AllReadyH.cons rfl (fun K hK => ?_) AllReadyH.nil
  go_simp
  (go_at_call 45; refine (in_any hrr _ _).mono ?_; rintro e w2 ⟨rfl, hF2⟩; (replace B := B.kept0 hF2); (replace kX := B.x.cell); (replace fX := B.x.free); (replace kB := B.b.cell); (replace kR := B.r.cell); (replace fR := B.r.free); (replace kH := B.H.cellsC (c := s.c) rfl))
  go_wp2_with fail
  refine hK.out _ _ (by exact ⟨B.b.cell 0, B.x.cell 3, B.H.blk.cell 1, B.H.blk.cell 2, B.H.blk.cell 3, B.H.blk.cell 4⟩) (fun hHeld => ?_)
  clear hK K
  try simp only [Act.put, List.getElem_toArray, List.getElem_cons_succ, List.getElem_cons_zero, List.setIfInBounds_toArray, List.set_cons_zero, List.set_cons_succ]
  refine wpAnyH_ready (rs := [8]) (by kernel_rfl) (by simp) ?_
  refine AllReadyH.cons rfl (fun K hK => ?_) AllReadyH.nil
  go_simp
  (go_at_call 126; refine (load_u hu B.H).mono ?_; rintro e w2 ⟨rfl, HH, hF2⟩; (replace B := B.hand HH hF2); clear HH; (replace kX := B.x.cell); (replace fX := B.x.free); (replace kB := B.b.cell); (replace kR := B.r.cell); (replace fR := B.r.free); (replace kH := B.H.cellsC (c := s.c) rfl))
  go_wp2_with fail
  refine hK.out _ _ (by exact ⟨B.b.cell 0, B.x.cell 3, B.H.blk.cell 1, B.H.blk.cell 2, B.H.blk.cell 3, B.H.blk.cell 4⟩) (fun hHeld => ?_)
  clear hK K
  try simp only [Act.put, List.getElem_toArray, List.getElem_cons_succ, List.getElem_cons_zero, List.setIfInBounds_toArray, List.set_cons_zero, List.set_cons_succ]
  refine wpAnyH_take (i := 9) (v := ?_) rfl (by kernel_rfl) (by kernel_rfl) (by kernel_rfl) (fun _ _ _ h => h) (Or.inl ⟨by rfl, ?_⟩) (by assumption) ?_
  rotate_left
  · intro w hSw; (try dsimp only at hSw); go_simp; first | done | with_reducible rfl
  try simp only [Act.put, List.getElem_toArray, List.getElem_cons_succ, List.getElem_cons_zero, List.setIfInBounds_toArray, List.set_cons_zero, List.set_cons_succ]
  refine wpAnyH_done (by kernel_rfl) ?_ _
  replace kX := B.x.cell
  replace fX := B.x.free
  replace kB := B.b.cell
  replace kR := B.r.cell
  replace fR := B.r.free
  replace kH := B.H.cellsC (c := s.c) rfl
  go_wp2_with (first | (go_at_call 43; refine (HSy.out _).mono ?_; rintro e w2 ⟨rfl, rfl⟩) | (go_at_call 141; (replace B := B.set 4 (.int .u64 0)); simp only [List.set_cons_zero, List.set_cons_succ] at B; (have hpp := barpass_over (l1 := 10) (l2 := 11) B.b B.x B.H (by omega) (by omega) (by omega) (by omega) hm hlH.out); (refine hpp.mono ?_); clear hpp; rintro e w2 ⟨rfl, hX2, hF2⟩; (replace B := B.own hX2 hF2); clear hX2; (replace kX := B.x.cell); (replace fX := B.x.free); (replace kB := B.b.cell); (replace kR := B.r.cell); (replace fR := B.r.free); (replace kH := B.H.cellsC (c := s.c) rfl)))
  refine bodyPost_ret (v := .tuple #[.agg #[.int .i64 (11), .int .i64 (j), .int .i64 (c), .int .i64 (0), .int .u64 (0), .int .u64 (p), .bool (found), .int .i64 (tail), .int .i64 (cyc)], .bool false, .bool true]) (by simp [results, Try.results53, go_sem, kX, kR]) rfl ⟨rfl, ?_⟩
  exact B.done _ _ _ _ _ _ _ _ _


set_option maxRecDepth 100000 in
set_option maxHeartbeats 4000000 in
theorem ba120m {w : World} {h ab db : Nat} {s : HS} (H : HAt w h ab db s) (j c m a p tail cyc : Int) (found : Bool) (hm : -1000000 ≤ m ∧ m ≤ 1000000) (u k : Int) (hu : wAt s.ws (s.c.inP m) = u) (hk : u % 4 = k) (hu0 : 0 ≤ u) (hu1 : u < 18446744073709551616) (k0 : (k == 0) = true) (hl : m + 1 < s.c.muts) :
    Calls Try.prog 53 #[.pointer (some ⟨h, 0, none⟩), .agg #[.int .i64 (12), .int .i64 (j), .int .i64 (c), .int .i64 (m), .int .u64 (a), .int .u64 (p), .bool (found), .int .i64 (tail), .int .i64 (cyc)]] w fun e w' => e = .returned (.tuple #[.agg #[.int .i64 (12), .int .i64 (j), .int .i64 (c), .int .i64 (m + 1), .int .u64 (a), .int .u64 (p), .bool (found), .int .i64 (tail), .int .i64 (cyc)], .bool false, .bool true]) ∧ (HAt w' h ab db (s.doIt (aLoad (s.c.inP m))) ∧ Fr [h, db] w w') := by
  have hmf : ∀ (fn : Fn) (first cap : Array Value) (w : World), (Instr.makeFunc fn first cap).run Try.prog w = .ok (.func fn first cap) w := fun _ _ _ _ => rfl
  have B := CB.start H [.int .i64 (12), .int .i64 (j), .int .i64 (c), .int .i64 (m), .int .u64 (a), .int .u64 (p), .bool (found), .int .i64 (tail), .int .i64 (cyc)]
  have n0 := B.l1
  have n1 := B.l3
  have n2 := B.l2
  have hrr := H.right
  (try replace hl := hid hl)
  (try have hlH := hl)
  have HSy := hid (fun W => says_any u W hu0 hu1)
  rw [hk] at HSy

  clear H
  simp only [zCol] at B
  replace kX := B.x.cell
  replace fX := B.x.free
  replace kB := B.b.cell
  replace kR := B.r.cell
  replace fR := B.r.free
  replace kH := B.H.cellsC (c := s.c) rfl
  go_enter Try.func53, Try.ntmps53
  go_upto_region 24 with fail
  replace B := B.drew
  refine wp_region_held_drew (S := (fun (W : World) => W.cell? ⟨w.heap.size, 0, none⟩ = some (.pointer (some ⟨h, 0, none⟩)) ∧ W.cell? ⟨w.heap.size + 1, 3, none⟩ = some (.int .i64 m) ∧ W.cell? ⟨h, 1, none⟩ = some (.int .i64 s.c.cells) ∧ W.cell? ⟨h, 2, none⟩ = some (.int .i64 s.c.muts) ∧ W.cell? ⟨h, 3, none⟩ = some (.int .i64 s.c.regs) ∧ W.cell? ⟨h, 4, none⟩ = some (.int .i64 s.c.globs))) (by kernel_rfl) (by exact ⟨B.b.cell 0, B.x.cell 3, B.H.blk.cell 1, B.H.blk.cell 2, B.H.blk.cell 3, B.H.blk.cell 4⟩) (fun hHeld => ?_)
  refine wpAnyH_take (i := 0) (v := ?_) rfl (by kernel_rfl) (by kernel_rfl) (by kernel_rfl) (fun _ _ _ h => h) (Or.inl ⟨by rfl, ?_⟩) (by assumption) ?_
  rotate_left
  · intro w hSw; (try dsimp only at hSw); go_simp; first | done | with_reducible rfl
  try simp only [Act.put, List.getElem_toArray, List.getElem_cons_succ, List.getElem_cons_zero, List.setIfInBounds_toArray, List.set_cons_zero, List.set_cons_succ]
  refine wpAnyH_take (i := 1) (v := ?_) rfl (by kernel_rfl) (by kernel_rfl) (by kernel_rfl) (fun _ _ _ h => h) (Or.inl ⟨by rfl, ?_⟩) (by assumption) ?_
  rotate_left
  · intro w hSw; (try dsimp only at hSw); go_simp; first | done | with_reducible rfl
  try simp only [Act.put, List.getElem_toArray, List.getElem_cons_succ, List.getElem_cons_zero, List.setIfInBounds_toArray, List.set_cons_zero, List.set_cons_succ]
  refine wpAnyH_take (i := 2) (v := ?_) rfl (by kernel_rfl) (by kernel_rfl) (by kernel_rfl) (fun _ _ _ h => h) (Or.inl ⟨by rfl, ?_⟩) (by assumption) ?_
  rotate_left
  · intro w hSw; (try dsimp only at hSw); go_simp; first | done | with_reducible rfl
  try simp only [Act.put, List.getElem_toArray, List.getElem_cons_succ, List.getElem_cons_zero, List.setIfInBounds_toArray, List.set_cons_zero, List.set_cons_succ]
  refine wpAnyH_take (i := 3) (v := ?_) rfl (by kernel_rfl) (by kernel_rfl) (by kernel_rfl) (fun _ _ _ h => h) (Or.inl ⟨by rfl, ?_⟩) (by assumption) ?_
  rotate_left
  · intro w hSw; (try dsimp only at hSw); go_simp; first | done | with_reducible rfl
  try simp only [Act.put, List.getElem_toArray, List.getElem_cons_succ, List.getElem_cons_zero, List.setIfInBounds_toArray, List.set_cons_zero, List.set_cons_succ]
  refine wpAnyH_take (i := 4) (v := ?_) rfl (by kernel_rfl) (by kernel_rfl) (by kernel_rfl) (fun _ _ _ h => h) (Or.inl ⟨by rfl, ?_⟩) (by assumption) ?_
  rotate_left
  · intro w hSw; (try dsimp only at hSw); go_simp; first | done | with_reducible rfl
  try simp only [Act.put, List.getElem_toArray, List.getElem_cons_succ, List.getElem_cons_zero, List.setIfInBounds_toArray, List.set_cons_zero, List.set_cons_succ]
  refine wpAnyH_take (i := 5) (v := ?_) rfl (by kernel_rfl) (by kernel_rfl) (by kernel_rfl) (fun _ _ _ h => h) (Or.inl ⟨by rfl, ?_⟩) (by assumption) ?_
  rotate_left
  · intro w hSw; (try dsimp only at hSw); go_simp; first | done | with_reducible rfl
  try simp only [Act.put, List.getElem_toArray, List.getElem_cons_succ, List.getElem_cons_zero, List.setIfInBounds_toArray, List.set_cons_zero, List.set_cons_succ]
  refine wpAnyH_take (i := 6) (v := ?_) rfl (by kernel_rfl) (by kernel_rfl) (by kernel_rfl) (fun _ _ _ h => h) (Or.inl ⟨by rfl, ?_⟩) (by assumption) ?_
  rotate_left
  · intro w hSw; (try dsimp only at hSw); go_simp; first | done | with_reducible rfl
  try simp only [Act.put, List.getElem_toArray, List.getElem_cons_succ, List.getElem_cons_zero, List.setIfInBounds_toArray, List.set_cons_zero, List.set_cons_succ]
  refine wpAnyH_ready (rs := [7]) (by kernel_rfl) (by simp) ?_
  refine AllReadyH.cons rfl (fun K hK => ?_) AllReadyH.nil
  go_simp
  (go_at_call 45; refine (in_any hrr _ _).mono ?_; rintro e w2 ⟨rfl, hF2⟩; (replace B := B.kept0 hF2); (replace kX := B.x.cell); (replace fX := B.x.free); (replace kB := B.b.cell); (replace kR := B.r.cell); (replace fR := B.r.free); (replace kH := B.H.cellsC (c := s.c) rfl))
  go_wp2_with fail
  refine hK.out _ _ (by exact ⟨B.b.cell 0, B.x.cell 3, B.H.blk.cell 1, B.H.blk.cell 2, B.H.blk.cell 3, B.H.blk.cell 4⟩) (fun hHeld => ?_)
  clear hK K
  try simp only [Act.put, List.getElem_toArray, List.getElem_cons_succ, List.getElem_cons_zero, List.setIfInBounds_toArray, List.set_cons_zero, List.set_cons_succ]
  refine wpAnyH_ready (rs := [8]) (by kernel_rfl) (by simp) ?_
  refine AllReadyH.cons rfl (fun K hK => ?_) AllReadyH.nil
  go_simp
  (go_at_call 126; refine (load_u hu B.H).mono ?_; rintro e w2 ⟨rfl, HH, hF2⟩; (replace B := B.hand HH hF2); clear HH; (replace kX := B.x.cell); (replace fX := B.x.free); (replace kB := B.b.cell); (replace kR := B.r.cell); (replace fR := B.r.free); (replace kH := B.H.cellsC (c := s.c) rfl))
  go_wp2_with fail
  refine hK.out _ _ (by exact ⟨B.b.cell 0, B.x.cell 3, B.H.blk.cell 1, B.H.blk.cell 2, B.H.blk.cell 3, B.H.blk.cell 4⟩) (fun hHeld => ?_)
  clear hK K
  try simp only [Act.put, List.getElem_toArray, List.getElem_cons_succ, List.getElem_cons_zero, List.setIfInBounds_toArray, List.set_cons_zero, List.set_cons_succ]
  refine wpAnyH_ready (rs := [9]) (by kernel_rfl) (by simp) ?_
  refine AllReadyH.cons rfl (fun K hK => ?_) AllReadyH.nil
  go_simp
  (go_at_call 43; refine (HSy.out _).mono ?_; rintro e w2 ⟨rfl, rfl⟩)
  go_wp2_with fail
  refine hK.out _ _ (by exact ⟨B.b.cell 0, B.x.cell 3, B.H.blk.cell 1, B.H.blk.cell 2, B.H.blk.cell 3, B.H.blk.cell 4⟩) (fun hHeld => ?_)
  clear hK K
  try simp only [Act.put, List.getElem_toArray, List.getElem_cons_succ, List.getElem_cons_zero, List.setIfInBounds_toArray, List.set_cons_zero, List.set_cons_succ]
  refine wpAnyH_take (i := 10) (v := ?_) rfl (by kernel_rfl) (by kernel_rfl) (by kernel_rfl) (fun _ _ _ h => h) (Or.inl ⟨by rfl, ?_⟩) (by assumption) ?_
  rotate_left
  · intro w hSw; (try dsimp only at hSw); go_simp; first | done | with_reducible rfl
  try simp only [Act.put, List.getElem_toArray, List.getElem_cons_succ, List.getElem_cons_zero, List.setIfInBounds_toArray, List.set_cons_zero, List.set_cons_succ]
  refine wpAnyH_done (by kernel_rfl) ?_ _
  replace kX := B.x.cell
  replace fX := B.x.free
  replace kB := B.b.cell
  replace kR := B.r.cell
  replace fR := B.r.free
  replace kH := B.H.cellsC (c := s.c) rfl
  go_wp2_with (first | (go_at_call 141; (have hpp := barpass_more (l1 := 12) (l2 := 13) B.b B.x B.H (by omega) (by omega) (by omega) (by omega) hm hlH.out); (refine hpp.mono ?_); clear hpp; rintro e w2 ⟨rfl, hX2, hF2⟩; (replace B := B.own hX2 hF2); clear hX2; (replace kX := B.x.cell); (replace fX := B.x.free); (replace kB := B.b.cell); (replace kR := B.r.cell); (replace fR := B.r.free); (replace kH := B.H.cellsC (c := s.c) rfl)))
  refine bodyPost_ret (v := .tuple #[.agg #[.int .i64 (12), .int .i64 (j), .int .i64 (c), .int .i64 (m + 1), .int .u64 (a), .int .u64 (p), .bool (found), .int .i64 (tail), .int .i64 (cyc)], .bool false, .bool true]) (by simp [results, Try.results53, go_sem, kX, kR]) rfl ⟨rfl, ?_⟩
  exact B.done _ _ _ _ _ _ _ _ _


set_option maxRecDepth 100000 in
set_option maxHeartbeats 4000000 in
theorem ba120o {w : World} {h ab db : Nat} {s : HS} (H : HAt w h ab db s) (j c m a p tail cyc : Int) (found : Bool) (hm : -1000000 ≤ m ∧ m ≤ 1000000) (u k : Int) (hu : wAt s.ws (s.c.inP m) = u) (hk : u % 4 = k) (hu0 : 0 ≤ u) (hu1 : u < 18446744073709551616) (k0 : (k == 0) = true) (hl : s.c.muts ≤ m + 1) :
    Calls Try.prog 53 #[.pointer (some ⟨h, 0, none⟩), .agg #[.int .i64 (12), .int .i64 (j), .int .i64 (c), .int .i64 (m), .int .u64 (a), .int .u64 (p), .bool (found), .int .i64 (tail), .int .i64 (cyc)]] w fun e w' => e = .returned (.tuple #[.agg #[.int .i64 (13), .int .i64 (j), .int .i64 (c), .int .i64 (0), .int .u64 (a), .int .u64 (p), .bool (found), .int .i64 (tail), .int .i64 (cyc)], .bool false, .bool true]) ∧ (HAt w' h ab db (s.doIt (aLoad (s.c.inP m))) ∧ Fr [h, db] w w') := by
  have hmf : ∀ (fn : Fn) (first cap : Array Value) (w : World), (Instr.makeFunc fn first cap).run Try.prog w = .ok (.func fn first cap) w := fun _ _ _ _ => rfl
  have B := CB.start H [.int .i64 (12), .int .i64 (j), .int .i64 (c), .int .i64 (m), .int .u64 (a), .int .u64 (p), .bool (found), .int .i64 (tail), .int .i64 (cyc)]
  have n0 := B.l1
  have n1 := B.l3
  have n2 := B.l2
  have hrr := H.right
  (try replace hl := hid hl)
  (try have hlH := hl)
  have HSy := hid (fun W => says_any u W hu0 hu1)
  rw [hk] at HSy

  clear H
  simp only [zCol] at B
  replace kX := B.x.cell
  replace fX := B.x.free
  replace kB := B.b.cell
  replace kR := B.r.cell
  replace fR := B.r.free
  replace kH := B.H.cellsC (c := s.c) rfl
  go_enter Try.func53, Try.ntmps53
  go_upto_region 24 with fail
  replace B := B.drew
  refine wp_region_held_drew (S := (fun (W : World) => W.cell? ⟨w.heap.size, 0, none⟩ = some (.pointer (some ⟨h, 0, none⟩)) ∧ W.cell? ⟨w.heap.size + 1, 3, none⟩ = some (.int .i64 m) ∧ W.cell? ⟨h, 1, none⟩ = some (.int .i64 s.c.cells) ∧ W.cell? ⟨h, 2, none⟩ = some (.int .i64 s.c.muts) ∧ W.cell? ⟨h, 3, none⟩ = some (.int .i64 s.c.regs) ∧ W.cell? ⟨h, 4, none⟩ = some (.int .i64 s.c.globs))) (by kernel_rfl) (by exact ⟨B.b.cell 0, B.x.cell 3, B.H.blk.cell 1, B.H.blk.cell 2, B.H.blk.cell 3, B.H.blk.cell 4⟩) (fun hHeld => ?_)
  refine wpAnyH_take (i := 0) (v := ?_) rfl (by kernel_rfl) (by kernel_rfl) (by kernel_rfl) (fun _ _ _ h => h) (Or.inl ⟨by rfl, ?_⟩) (by assumption) ?_
  rotate_left
  · intro w hSw; (try dsimp only at hSw); go_simp; first | done | with_reducible rfl
  try simp only [Act.put, List.getElem_toArray, List.getElem_cons_succ, List.getElem_cons_zero, List.setIfInBounds_toArray, List.set_cons_zero, List.set_cons_succ]
  refine wpAnyH_take (i := 1) (v := ?_) rfl (by kernel_rfl) (by kernel_rfl) (by kernel_rfl) (fun _ _ _ h => h) (Or.inl ⟨by rfl, ?_⟩) (by assumption) ?_
  rotate_left
  · intro w hSw; (try dsimp only at hSw); go_simp; first | done | with_reducible rfl
  try simp only [Act.put, List.getElem_toArray, List.getElem_cons_succ, List.getElem_cons_zero, List.setIfInBounds_toArray, List.set_cons_zero, List.set_cons_succ]
  refine wpAnyH_take (i := 2) (v := ?_) rfl (by kernel_rfl) (by kernel_rfl) (by kernel_rfl) (fun _ _ _ h => h) (Or.inl ⟨by rfl, ?_⟩) (by assumption) ?_
  rotate_left
  · intro w hSw; (try dsimp only at hSw); go_simp; first | done | with_reducible rfl
  try simp only [Act.put, List.getElem_toArray, List.getElem_cons_succ, List.getElem_cons_zero, List.setIfInBounds_toArray, List.set_cons_zero, List.set_cons_succ]
  refine wpAnyH_take (i := 3) (v := ?_) rfl (by kernel_rfl) (by kernel_rfl) (by kernel_rfl) (fun _ _ _ h => h) (Or.inl ⟨by rfl, ?_⟩) (by assumption) ?_
  rotate_left
  · intro w hSw; (try dsimp only at hSw); go_simp; first | done | with_reducible rfl
  try simp only [Act.put, List.getElem_toArray, List.getElem_cons_succ, List.getElem_cons_zero, List.setIfInBounds_toArray, List.set_cons_zero, List.set_cons_succ]
  refine wpAnyH_take (i := 4) (v := ?_) rfl (by kernel_rfl) (by kernel_rfl) (by kernel_rfl) (fun _ _ _ h => h) (Or.inl ⟨by rfl, ?_⟩) (by assumption) ?_
  rotate_left
  · intro w hSw; (try dsimp only at hSw); go_simp; first | done | with_reducible rfl
  try simp only [Act.put, List.getElem_toArray, List.getElem_cons_succ, List.getElem_cons_zero, List.setIfInBounds_toArray, List.set_cons_zero, List.set_cons_succ]
  refine wpAnyH_take (i := 5) (v := ?_) rfl (by kernel_rfl) (by kernel_rfl) (by kernel_rfl) (fun _ _ _ h => h) (Or.inl ⟨by rfl, ?_⟩) (by assumption) ?_
  rotate_left
  · intro w hSw; (try dsimp only at hSw); go_simp; first | done | with_reducible rfl
  try simp only [Act.put, List.getElem_toArray, List.getElem_cons_succ, List.getElem_cons_zero, List.setIfInBounds_toArray, List.set_cons_zero, List.set_cons_succ]
  refine wpAnyH_take (i := 6) (v := ?_) rfl (by kernel_rfl) (by kernel_rfl) (by kernel_rfl) (fun _ _ _ h => h) (Or.inl ⟨by rfl, ?_⟩) (by assumption) ?_
  rotate_left
  · intro w hSw; (try dsimp only at hSw); go_simp; first | done | with_reducible rfl
  try simp only [Act.put, List.getElem_toArray, List.getElem_cons_succ, List.getElem_cons_zero, List.setIfInBounds_toArray, List.set_cons_zero, List.set_cons_succ]
  refine wpAnyH_ready (rs := [7]) (by kernel_rfl) (by simp) ?_
  refine AllReadyH.cons rfl (fun K hK => ?_) AllReadyH.nil
  go_simp
  (go_at_call 45; refine (in_any hrr _ _).mono ?_; rintro e w2 ⟨rfl, hF2⟩; (replace B := B.kept0 hF2); (replace kX := B.x.cell); (replace fX := B.x.free); (replace kB := B.b.cell); (replace kR := B.r.cell); (replace fR := B.r.free); (replace kH := B.H.cellsC (c := s.c) rfl))
  go_wp2_with fail
  refine hK.out _ _ (by exact ⟨B.b.cell 0, B.x.cell 3, B.H.blk.cell 1, B.H.blk.cell 2, B.H.blk.cell 3, B.H.blk.cell 4⟩) (fun hHeld => ?_)
  clear hK K
  try simp only [Act.put, List.getElem_toArray, List.getElem_cons_succ, List.getElem_cons_zero, List.setIfInBounds_toArray, List.set_cons_zero, List.set_cons_succ]
  refine wpAnyH_ready (rs := [8]) (by kernel_rfl) (by simp) ?_
  refine AllReadyH.cons rfl (fun K hK => ?_) AllReadyH.nil
  go_simp
  (go_at_call 126; refine (load_u hu B.H).mono ?_; rintro e w2 ⟨rfl, HH, hF2⟩; (replace B := B.hand HH hF2); clear HH; (replace kX := B.x.cell); (replace fX := B.x.free); (replace kB := B.b.cell); (replace kR := B.r.cell); (replace fR := B.r.free); (replace kH := B.H.cellsC (c := s.c) rfl))
  go_wp2_with fail
  refine hK.out _ _ (by exact ⟨B.b.cell 0, B.x.cell 3, B.H.blk.cell 1, B.H.blk.cell 2, B.H.blk.cell 3, B.H.blk.cell 4⟩) (fun hHeld => ?_)
  clear hK K
  try simp only [Act.put, List.getElem_toArray, List.getElem_cons_succ, List.getElem_cons_zero, List.setIfInBounds_toArray, List.set_cons_zero, List.set_cons_succ]
  refine wpAnyH_ready (rs := [9]) (by kernel_rfl) (by simp) ?_
  refine AllReadyH.cons rfl (fun K hK => ?_) AllReadyH.nil
  go_simp
  (go_at_call 43; refine (HSy.out _).mono ?_; rintro e w2 ⟨rfl, rfl⟩)
  go_wp2_with fail
  refine hK.out _ _ (by exact ⟨B.b.cell 0, B.x.cell 3, B.H.blk.cell 1, B.H.blk.cell 2, B.H.blk.cell 3, B.H.blk.cell 4⟩) (fun hHeld => ?_)
  clear hK K
  try simp only [Act.put, List.getElem_toArray, List.getElem_cons_succ, List.getElem_cons_zero, List.setIfInBounds_toArray, List.set_cons_zero, List.set_cons_succ]
  refine wpAnyH_take (i := 10) (v := ?_) rfl (by kernel_rfl) (by kernel_rfl) (by kernel_rfl) (fun _ _ _ h => h) (Or.inl ⟨by rfl, ?_⟩) (by assumption) ?_
  rotate_left
  · intro w hSw; (try dsimp only at hSw); go_simp; first | done | with_reducible rfl
  try simp only [Act.put, List.getElem_toArray, List.getElem_cons_succ, List.getElem_cons_zero, List.setIfInBounds_toArray, List.set_cons_zero, List.set_cons_succ]
  refine wpAnyH_done (by kernel_rfl) ?_ _
  replace kX := B.x.cell
  replace fX := B.x.free
  replace kB := B.b.cell
  replace kR := B.r.cell
  replace fR := B.r.free
  replace kH := B.H.cellsC (c := s.c) rfl
  go_wp2_with (first | (go_at_call 141; (have hpp := barpass_over (l1 := 12) (l2 := 13) B.b B.x B.H (by omega) (by omega) (by omega) (by omega) hm hlH.out); (refine hpp.mono ?_); clear hpp; rintro e w2 ⟨rfl, hX2, hF2⟩; (replace B := B.own hX2 hF2); clear hX2; (replace kX := B.x.cell); (replace fX := B.x.free); (replace kB := B.b.cell); (replace kR := B.r.cell); (replace fR := B.r.free); (replace kH := B.H.cellsC (c := s.c) rfl)))
  refine bodyPost_ret (v := .tuple #[.agg #[.int .i64 (13), .int .i64 (j), .int .i64 (c), .int .i64 (0), .int .u64 (a), .int .u64 (p), .bool (found), .int .i64 (tail), .int .i64 (cyc)], .bool false, .bool true]) (by simp [results, Try.results53, go_sem, kX, kR]) rfl ⟨rfl, ?_⟩
  exact B.done _ _ _ _ _ _ _ _ _


set_option maxRecDepth 100000 in
set_option maxHeartbeats 4000000 in
theorem ba123m {w : World} {h ab db : Nat} {s : HS} (H : HAt w h ab db s) (j c m a p tail cyc : Int) (found : Bool) (hm : -1000000 ≤ m ∧ m ≤ 1000000) (u k : Int) (hu : wAt s.ws (s.c.inP m) = u) (hk : u % 4 = k) (hu0 : 0 ≤ u) (hu1 : u < 18446744073709551616) (k0 : (k == 0) = false) (k3 : (k == 3) = true) (hl : m + 1 < s.c.muts) :
    Calls Try.prog 53 #[.pointer (some ⟨h, 0, none⟩), .agg #[.int .i64 (12), .int .i64 (j), .int .i64 (c), .int .i64 (m), .int .u64 (a), .int .u64 (p), .bool (found), .int .i64 (tail), .int .i64 (cyc)]] w fun e w' => e = .returned (.tuple #[.agg #[.int .i64 (12), .int .i64 (j), .int .i64 (c), .int .i64 (m + 1), .int .u64 (a), .int .u64 (p), .bool (found), .int .i64 (tail), .int .i64 (cyc)], .bool false, .bool true]) ∧ (HAt w' h ab db (s.doIt (aLoad (s.c.inP m))) ∧ Fr [h, db] w w') := by
  have hmf : ∀ (fn : Fn) (first cap : Array Value) (w : World), (Instr.makeFunc fn first cap).run Try.prog w = .ok (.func fn first cap) w := fun _ _ _ _ => rfl
  have B := CB.start H [.int .i64 (12), .int .i64 (j), .int .i64 (c), .int .i64 (m), .int .u64 (a), .int .u64 (p), .bool (found), .int .i64 (tail), .int .i64 (cyc)]
  have n0 := B.l1
  have n1 := B.l3
  have n2 := B.l2
  have hrr := H.right
  (try replace hl := hid hl)
  (try have hlH := hl)
  have HSy := hid (fun W => says_any u W hu0 hu1)
  rw [hk] at HSy

  clear H
  simp only [zCol] at B
  replace kX := B.x.cell
  replace fX := B.x.free
  replace kB := B.b.cell
  replace kR := B.r.cell
  replace fR := B.r.free
  replace kH := B.H.cellsC (c := s.c) rfl
  go_enter Try.func53, Try.ntmps53
  go_upto_region 24 with fail
  replace B := B.drew
  refine wp_region_held_drew (S := (fun (W : World) => W.cell? ⟨w.heap.size, 0, none⟩ = some (.pointer (some ⟨h, 0, none⟩)) ∧ W.cell? ⟨w.heap.size + 1, 3, none⟩ = some (.int .i64 m) ∧ W.cell? ⟨h, 1, none⟩ = some (.int .i64 s.c.cells) ∧ W.cell? ⟨h, 2, none⟩ = some (.int .i64 s.c.muts) ∧ W.cell? ⟨h, 3, none⟩ = some (.int .i64 s.c.regs) ∧ W.cell? ⟨h, 4, none⟩ = some (.int .i64 s.c.globs))) (by kernel_rfl) (by exact ⟨B.b.cell 0, B.x.cell 3, B.H.blk.cell 1, B.H.blk.cell 2, B.H.blk.cell 3, B.H.blk.cell 4⟩) (fun hHeld => ?_)
  refine wpAnyH_take (i := 0) (v := ?_) rfl (by kernel_rfl) (by kernel_rfl) (by kernel_rfl) (fun _ _ _ h => h) (Or.inl ⟨by rfl, ?_⟩) (by assumption) ?_
  rotate_left
  · intro w hSw; (try dsimp only at hSw); go_simp; first | done | with_reducible rfl
  try simp only [Act.put, List.getElem_toArray, List.getElem_cons_succ, List.getElem_cons_zero, List.setIfInBounds_toArray, List.set_cons_zero, List.set_cons_succ]
  refine wpAnyH_take (i := 1) (v := ?_) rfl (by kernel_rfl) (by kernel_rfl) (by kernel_rfl) (fun _ _ _ h => h) (Or.inl ⟨by rfl, ?_⟩) (by assumption) ?_
  rotate_left
  · intro w hSw; (try dsimp only at hSw); go_simp; first | done | with_reducible rfl
  try simp only [Act.put, List.getElem_toArray, List.getElem_cons_succ, List.getElem_cons_zero, List.setIfInBounds_toArray, List.set_cons_zero, List.set_cons_succ]
  refine wpAnyH_take (i := 2) (v := ?_) rfl (by kernel_rfl) (by kernel_rfl) (by kernel_rfl) (fun _ _ _ h => h) (Or.inl ⟨by rfl, ?_⟩) (by assumption) ?_
  rotate_left
  · intro w hSw; (try dsimp only at hSw); go_simp; first | done | with_reducible rfl
  try simp only [Act.put, List.getElem_toArray, List.getElem_cons_succ, List.getElem_cons_zero, List.setIfInBounds_toArray, List.set_cons_zero, List.set_cons_succ]
  refine wpAnyH_take (i := 3) (v := ?_) rfl (by kernel_rfl) (by kernel_rfl) (by kernel_rfl) (fun _ _ _ h => h) (Or.inl ⟨by rfl, ?_⟩) (by assumption) ?_
  rotate_left
  · intro w hSw; (try dsimp only at hSw); go_simp; first | done | with_reducible rfl
  try simp only [Act.put, List.getElem_toArray, List.getElem_cons_succ, List.getElem_cons_zero, List.setIfInBounds_toArray, List.set_cons_zero, List.set_cons_succ]
  refine wpAnyH_take (i := 4) (v := ?_) rfl (by kernel_rfl) (by kernel_rfl) (by kernel_rfl) (fun _ _ _ h => h) (Or.inl ⟨by rfl, ?_⟩) (by assumption) ?_
  rotate_left
  · intro w hSw; (try dsimp only at hSw); go_simp; first | done | with_reducible rfl
  try simp only [Act.put, List.getElem_toArray, List.getElem_cons_succ, List.getElem_cons_zero, List.setIfInBounds_toArray, List.set_cons_zero, List.set_cons_succ]
  refine wpAnyH_take (i := 5) (v := ?_) rfl (by kernel_rfl) (by kernel_rfl) (by kernel_rfl) (fun _ _ _ h => h) (Or.inl ⟨by rfl, ?_⟩) (by assumption) ?_
  rotate_left
  · intro w hSw; (try dsimp only at hSw); go_simp; first | done | with_reducible rfl
  try simp only [Act.put, List.getElem_toArray, List.getElem_cons_succ, List.getElem_cons_zero, List.setIfInBounds_toArray, List.set_cons_zero, List.set_cons_succ]
  refine wpAnyH_take (i := 6) (v := ?_) rfl (by kernel_rfl) (by kernel_rfl) (by kernel_rfl) (fun _ _ _ h => h) (Or.inl ⟨by rfl, ?_⟩) (by assumption) ?_
  rotate_left
  · intro w hSw; (try dsimp only at hSw); go_simp; first | done | with_reducible rfl
  try simp only [Act.put, List.getElem_toArray, List.getElem_cons_succ, List.getElem_cons_zero, List.setIfInBounds_toArray, List.set_cons_zero, List.set_cons_succ]
  refine wpAnyH_ready (rs := [7]) (by kernel_rfl) (by simp) ?_
  refine AllReadyH.cons rfl (fun K hK => ?_) AllReadyH.nil
  go_simp
  (go_at_call 45; refine (in_any hrr _ _).mono ?_; rintro e w2 ⟨rfl, hF2⟩; (replace B := B.kept0 hF2); (replace kX := B.x.cell); (replace fX := B.x.free); (replace kB := B.b.cell); (replace kR := B.r.cell); (replace fR := B.r.free); (replace kH := B.H.cellsC (c := s.c) rfl))
  go_wp2_with fail
  refine hK.out _ _ (by exact ⟨B.b.cell 0, B.x.cell 3, B.H.blk.cell 1, B.H.blk.cell 2, B.H.blk.cell 3, B.H.blk.cell 4⟩) (fun hHeld => ?_)
  clear hK K
  try simp only [Act.put, List.getElem_toArray, List.getElem_cons_succ, List.getElem_cons_zero, List.setIfInBounds_toArray, List.set_cons_zero, List.set_cons_succ]
  refine wpAnyH_ready (rs := [8]) (by kernel_rfl) (by simp) ?_
  refine AllReadyH.cons rfl (fun K hK => ?_) AllReadyH.nil
  go_simp
  (go_at_call 126; refine (load_u hu B.H).mono ?_; rintro e w2 ⟨rfl, HH, hF2⟩; (replace B := B.hand HH hF2); clear HH; (replace kX := B.x.cell); (replace fX := B.x.free); (replace kB := B.b.cell); (replace kR := B.r.cell); (replace fR := B.r.free); (replace kH := B.H.cellsC (c := s.c) rfl))
  go_wp2_with fail
  refine hK.out _ _ (by exact ⟨B.b.cell 0, B.x.cell 3, B.H.blk.cell 1, B.H.blk.cell 2, B.H.blk.cell 3, B.H.blk.cell 4⟩) (fun hHeld => ?_)
  clear hK K
  try simp only [Act.put, List.getElem_toArray, List.getElem_cons_succ, List.getElem_cons_zero, List.setIfInBounds_toArray, List.set_cons_zero, List.set_cons_succ]
  refine wpAnyH_ready (rs := [9]) (by kernel_rfl) (by simp) ?_
  refine AllReadyH.cons rfl (fun K hK => ?_) AllReadyH.nil
  go_simp
  (go_at_call 43; refine (HSy.out _).mono ?_; rintro e w2 ⟨rfl, rfl⟩)
  go_wp2_with fail
  refine hK.out _ _ (by exact ⟨B.b.cell 0, B.x.cell 3, B.H.blk.cell 1, B.H.blk.cell 2, B.H.blk.cell 3, B.H.blk.cell 4⟩) (fun hHeld => ?_)
  clear hK K
  try simp only [Act.put, List.getElem_toArray, List.getElem_cons_succ, List.getElem_cons_zero, List.setIfInBounds_toArray, List.set_cons_zero, List.set_cons_succ]
  refine wpAnyH_take (i := 10) (v := ?_) rfl (by kernel_rfl) (by kernel_rfl) (by kernel_rfl) (fun _ _ _ h => h) (Or.inl ⟨by rfl, ?_⟩) (by assumption) ?_
  rotate_left
  · intro w hSw; (try dsimp only at hSw); go_simp; first | done | with_reducible rfl
  try simp only [Act.put, List.getElem_toArray, List.getElem_cons_succ, List.getElem_cons_zero, List.setIfInBounds_toArray, List.set_cons_zero, List.set_cons_succ]
  refine wpAnyH_done (by kernel_rfl) ?_ _
  replace kX := B.x.cell
  replace fX := B.x.free
  replace kB := B.b.cell
  replace kR := B.r.cell
  replace fR := B.r.free
  replace kH := B.H.cellsC (c := s.c) rfl
  go_wp2_with (first | (go_at_call 141; (have hpp := barpass_more (l1 := 12) (l2 := 13) B.b B.x B.H (by omega) (by omega) (by omega) (by omega) hm hlH.out); (refine hpp.mono ?_); clear hpp; rintro e w2 ⟨rfl, hX2, hF2⟩; (replace B := B.own hX2 hF2); clear hX2; (replace kX := B.x.cell); (replace fX := B.x.free); (replace kB := B.b.cell); (replace kR := B.r.cell); (replace fR := B.r.free); (replace kH := B.H.cellsC (c := s.c) rfl)))
  refine bodyPost_ret (v := .tuple #[.agg #[.int .i64 (12), .int .i64 (j), .int .i64 (c), .int .i64 (m + 1), .int .u64 (a), .int .u64 (p), .bool (found), .int .i64 (tail), .int .i64 (cyc)], .bool false, .bool true]) (by simp [results, Try.results53, go_sem, kX, kR]) rfl ⟨rfl, ?_⟩
  exact B.done _ _ _ _ _ _ _ _ _


set_option maxRecDepth 100000 in
set_option maxHeartbeats 4000000 in
theorem ba123o {w : World} {h ab db : Nat} {s : HS} (H : HAt w h ab db s) (j c m a p tail cyc : Int) (found : Bool) (hm : -1000000 ≤ m ∧ m ≤ 1000000) (u k : Int) (hu : wAt s.ws (s.c.inP m) = u) (hk : u % 4 = k) (hu0 : 0 ≤ u) (hu1 : u < 18446744073709551616) (k0 : (k == 0) = false) (k3 : (k == 3) = true) (hl : s.c.muts ≤ m + 1) :
    Calls Try.prog 53 #[.pointer (some ⟨h, 0, none⟩), .agg #[.int .i64 (12), .int .i64 (j), .int .i64 (c), .int .i64 (m), .int .u64 (a), .int .u64 (p), .bool (found), .int .i64 (tail), .int .i64 (cyc)]] w fun e w' => e = .returned (.tuple #[.agg #[.int .i64 (13), .int .i64 (j), .int .i64 (c), .int .i64 (0), .int .u64 (a), .int .u64 (p), .bool (found), .int .i64 (tail), .int .i64 (cyc)], .bool false, .bool true]) ∧ (HAt w' h ab db (s.doIt (aLoad (s.c.inP m))) ∧ Fr [h, db] w w') := by
  have hmf : ∀ (fn : Fn) (first cap : Array Value) (w : World), (Instr.makeFunc fn first cap).run Try.prog w = .ok (.func fn first cap) w := fun _ _ _ _ => rfl
  have B := CB.start H [.int .i64 (12), .int .i64 (j), .int .i64 (c), .int .i64 (m), .int .u64 (a), .int .u64 (p), .bool (found), .int .i64 (tail), .int .i64 (cyc)]
  have n0 := B.l1
  have n1 := B.l3
  have n2 := B.l2
  have hrr := H.right
  (try replace hl := hid hl)
  (try have hlH := hl)
  have HSy := hid (fun W => says_any u W hu0 hu1)
  rw [hk] at HSy

  clear H
  simp only [zCol] at B
  replace kX := B.x.cell
  replace fX := B.x.free
  replace kB := B.b.cell
  replace kR := B.r.cell
  replace fR := B.r.free
  replace kH := B.H.cellsC (c := s.c) rfl
  go_enter Try.func53, Try.ntmps53
  go_upto_region 24 with fail
  replace B := B.drew
  refine wp_region_held_drew (S := (fun (W : World) => W.cell? ⟨w.heap.size, 0, none⟩ = some (.pointer (some ⟨h, 0, none⟩)) ∧ W.cell? ⟨w.heap.size + 1, 3, none⟩ = some (.int .i64 m) ∧ W.cell? ⟨h, 1, none⟩ = some (.int .i64 s.c.cells) ∧ W.cell? ⟨h, 2, none⟩ = some (.int .i64 s.c.muts) ∧ W.cell? ⟨h, 3, none⟩ = some (.int .i64 s.c.regs) ∧ W.cell? ⟨h, 4, none⟩ = some (.int .i64 s.c.globs))) (by kernel_rfl) (by exact ⟨B.b.cell 0, B.x.cell 3, B.H.blk.cell 1, B.H.blk.cell 2, B.H.blk.cell 3, B.H.blk.cell 4⟩) (fun hHeld => ?_)
  refine wpAnyH_take (i := 0) (v := ?_) rfl (by kernel_rfl) (by kernel_rfl) (by kernel_rfl) (fun _ _ _ h => h) (Or.inl ⟨by rfl, ?_⟩) (by assumption) ?_
  rotate_left
  · intro w hSw; (try dsimp only at hSw); go_simp; first | done | with_reducible rfl
  try simp only [Act.put, List.getElem_toArray, List.getElem_cons_succ, List.getElem_cons_zero, List.setIfInBounds_toArray, List.set_cons_zero, List.set_cons_succ]
  refine wpAnyH_take (i := 1) (v := ?_) rfl (by kernel_rfl) (by kernel_rfl) (by kernel_rfl) (fun _ _ _ h => h) (Or.inl ⟨by rfl, ?_⟩) (by assumption) ?_
  rotate_left
  · intro w hSw; (try dsimp only at hSw); go_simp; first | done | with_reducible rfl
  try simp only [Act.put, List.getElem_toArray, List.getElem_cons_succ, List.getElem_cons_zero, List.setIfInBounds_toArray, List.set_cons_zero, List.set_cons_succ]
  refine wpAnyH_take (i := 2) (v := ?_) rfl (by kernel_rfl) (by kernel_rfl) (by kernel_rfl) (fun _ _ _ h => h) (Or.inl ⟨by rfl, ?_⟩) (by assumption) ?_
  rotate_left
  · intro w hSw; (try dsimp only at hSw); go_simp; first | done | with_reducible rfl
  try simp only [Act.put, List.getElem_toArray, List.getElem_cons_succ, List.getElem_cons_zero, List.setIfInBounds_toArray, List.set_cons_zero, List.set_cons_succ]
  refine wpAnyH_take (i := 3) (v := ?_) rfl (by kernel_rfl) (by kernel_rfl) (by kernel_rfl) (fun _ _ _ h => h) (Or.inl ⟨by rfl, ?_⟩) (by assumption) ?_
  rotate_left
  · intro w hSw; (try dsimp only at hSw); go_simp; first | done | with_reducible rfl
  try simp only [Act.put, List.getElem_toArray, List.getElem_cons_succ, List.getElem_cons_zero, List.setIfInBounds_toArray, List.set_cons_zero, List.set_cons_succ]
  refine wpAnyH_take (i := 4) (v := ?_) rfl (by kernel_rfl) (by kernel_rfl) (by kernel_rfl) (fun _ _ _ h => h) (Or.inl ⟨by rfl, ?_⟩) (by assumption) ?_
  rotate_left
  · intro w hSw; (try dsimp only at hSw); go_simp; first | done | with_reducible rfl
  try simp only [Act.put, List.getElem_toArray, List.getElem_cons_succ, List.getElem_cons_zero, List.setIfInBounds_toArray, List.set_cons_zero, List.set_cons_succ]
  refine wpAnyH_take (i := 5) (v := ?_) rfl (by kernel_rfl) (by kernel_rfl) (by kernel_rfl) (fun _ _ _ h => h) (Or.inl ⟨by rfl, ?_⟩) (by assumption) ?_
  rotate_left
  · intro w hSw; (try dsimp only at hSw); go_simp; first | done | with_reducible rfl
  try simp only [Act.put, List.getElem_toArray, List.getElem_cons_succ, List.getElem_cons_zero, List.setIfInBounds_toArray, List.set_cons_zero, List.set_cons_succ]
  refine wpAnyH_take (i := 6) (v := ?_) rfl (by kernel_rfl) (by kernel_rfl) (by kernel_rfl) (fun _ _ _ h => h) (Or.inl ⟨by rfl, ?_⟩) (by assumption) ?_
  rotate_left
  · intro w hSw; (try dsimp only at hSw); go_simp; first | done | with_reducible rfl
  try simp only [Act.put, List.getElem_toArray, List.getElem_cons_succ, List.getElem_cons_zero, List.setIfInBounds_toArray, List.set_cons_zero, List.set_cons_succ]
  refine wpAnyH_ready (rs := [7]) (by kernel_rfl) (by simp) ?_
  refine AllReadyH.cons rfl (fun K hK => ?_) AllReadyH.nil
  go_simp
  (go_at_call 45; refine (in_any hrr _ _).mono ?_; rintro e w2 ⟨rfl, hF2⟩; (replace B := B.kept0 hF2); (replace kX := B.x.cell); (replace fX := B.x.free); (replace kB := B.b.cell); (replace kR := B.r.cell); (replace fR := B.r.free); (replace kH := B.H.cellsC (c := s.c) rfl))
  go_wp2_with fail
  refine hK.out _ _ (by exact ⟨B.b.cell 0, B.x.cell 3, B.H.blk.cell 1, B.H.blk.cell 2, B.H.blk.cell 3, B.H.blk.cell 4⟩) (fun hHeld => ?_)
  clear hK K
  try simp only [Act.put, List.getElem_toArray, List.getElem_cons_succ, List.getElem_cons_zero, List.setIfInBounds_toArray, List.set_cons_zero, List.set_cons_succ]
  refine wpAnyH_ready (rs := [8]) (by kernel_rfl) (by simp) ?_
  refine AllReadyH.cons rfl (fun K hK => ?_) AllReadyH.nil
  go_simp
  (go_at_call 126; refine (load_u hu B.H).mono ?_; rintro e w2 ⟨rfl, HH, hF2⟩; (replace B := B.hand HH hF2); clear HH; (replace kX := B.x.cell); (replace fX := B.x.free); (replace kB := B.b.cell); (replace kR := B.r.cell); (replace fR := B.r.free); (replace kH := B.H.cellsC (c := s.c) rfl))
  go_wp2_with fail
  refine hK.out _ _ (by exact ⟨B.b.cell 0, B.x.cell 3, B.H.blk.cell 1, B.H.blk.cell 2, B.H.blk.cell 3, B.H.blk.cell 4⟩) (fun hHeld => ?_)
  clear hK K
  try simp only [Act.put, List.getElem_toArray, List.getElem_cons_succ, List.getElem_cons_zero, List.setIfInBounds_toArray, List.set_cons_zero, List.set_cons_succ]
  refine wpAnyH_ready (rs := [9]) (by kernel_rfl) (by simp) ?_
  refine AllReadyH.cons rfl (fun K hK => ?_) AllReadyH.nil
  go_simp
  (go_at_call 43; refine (HSy.out _).mono ?_; rintro e w2 ⟨rfl, rfl⟩)
  go_wp2_with fail
  refine hK.out _ _ (by exact ⟨B.b.cell 0, B.x.cell 3, B.H.blk.cell 1, B.H.blk.cell 2, B.H.blk.cell 3, B.H.blk.cell 4⟩) (fun hHeld => ?_)
  clear hK K
  try simp only [Act.put, List.getElem_toArray, List.getElem_cons_succ, List.getElem_cons_zero, List.setIfInBounds_toArray, List.set_cons_zero, List.set_cons_succ]
  refine wpAnyH_take (i := 10) (v := ?_) rfl (by kernel_rfl) (by kernel_rfl) (by kernel_rfl) (fun _ _ _ h => h) (Or.inl ⟨by rfl, ?_⟩) (by assumption) ?_
  rotate_left
  · intro w hSw; (try dsimp only at hSw); go_simp; first | done | with_reducible rfl
  try simp only [Act.put, List.getElem_toArray, List.getElem_cons_succ, List.getElem_cons_zero, List.setIfInBounds_toArray, List.set_cons_zero, List.set_cons_succ]
  refine wpAnyH_done (by kernel_rfl) ?_ _
  replace kX := B.x.cell
  replace fX := B.x.free
  replace kB := B.b.cell
  replace kR := B.r.cell
  replace fR := B.r.free
  replace kH := B.H.cellsC (c := s.c) rfl
  go_wp2_with (first | (go_at_call 141; (have hpp := barpass_over (l1 := 12) (l2 := 13) B.b B.x B.H (by omega) (by omega) (by omega) (by omega) hm hlH.out); (refine hpp.mono ?_); clear hpp; rintro e w2 ⟨rfl, hX2, hF2⟩; (replace B := B.own hX2 hF2); clear hX2; (replace kX := B.x.cell); (replace fX := B.x.free); (replace kB := B.b.cell); (replace kR := B.r.cell); (replace fR := B.r.free); (replace kH := B.H.cellsC (c := s.c) rfl)))
  refine bodyPost_ret (v := .tuple #[.agg #[.int .i64 (13), .int .i64 (j), .int .i64 (c), .int .i64 (0), .int .u64 (a), .int .u64 (p), .bool (found), .int .i64 (tail), .int .i64 (cyc)], .bool false, .bool true]) (by simp [results, Try.results53, go_sem, kX, kR]) rfl ⟨rfl, ?_⟩
  exact B.done _ _ _ _ _ _ _ _ _


set_option maxRecDepth 100000 in
set_option maxHeartbeats 4000000 in
theorem ba12n {w : World} {h ab db : Nat} {s : HS} (H : HAt w h ab db s) (j c m a p tail cyc : Int) (found : Bool) (hm : -1000000 ≤ m ∧ m ≤ 1000000) (u k : Int) (hu : wAt s.ws (s.c.inP m) = u) (hk : u % 4 = k) (hu0 : 0 ≤ u) (hu1 : u < 18446744073709551616) (k0 : (k == 0) = false) (k3 : (k == 3) = false)  :
    Calls Try.prog 53 #[.pointer (some ⟨h, 0, none⟩), .agg #[.int .i64 (12), .int .i64 (j), .int .i64 (c), .int .i64 (m), .int .u64 (a), .int .u64 (p), .bool (found), .int .i64 (tail), .int .i64 (cyc)]] w fun e w' => e = .returned (.tuple #[.agg #[.int .i64 (12), .int .i64 (j), .int .i64 (c), .int .i64 (m), .int .u64 (a), .int .u64 (p), .bool (found), .int .i64 (tail), .int .i64 (cyc)], .bool false, .bool true]) ∧ (HAt w' h ab db (s.doIt (aLoad (s.c.inP m))) ∧ Fr [h, db] w w') := by
  have hmf : ∀ (fn : Fn) (first cap : Array Value) (w : World), (Instr.makeFunc fn first cap).run Try.prog w = .ok (.func fn first cap) w := fun _ _ _ _ => rfl
  have B := CB.start H [.int .i64 (12), .int .i64 (j), .int .i64 (c), .int .i64 (m), .int .u64 (a), .int .u64 (p), .bool (found), .int .i64 (tail), .int .i64 (cyc)]
  have n0 := B.l1
  have n1 := B.l3
  have n2 := B.l2
  have hrr := H.right
  (try replace hl := hid hl)
  (try have hlH := hl)
  have HSy := hid (fun W => says_any u W hu0 hu1)
  rw [hk] at HSy

  clear H
  simp only [zCol] at B
  replace kX := B.x.cell
  replace fX := B.x.free
  replace kB := B.b.cell
  replace kR := B.r.cell
  replace fR := B.r.free
  replace kH := B.H.cellsC (c := s.c) rfl
  go_enter Try.func53, Try.ntmps53
  go_upto_region 24 with fail
  replace B := B.drew
  refine wp_region_held_drew (S := (fun (W : World) => W.cell? ⟨w.heap.size, 0, none⟩ = some (.pointer (some ⟨h, 0, none⟩)) ∧ W.cell? ⟨w.heap.size + 1, 3, none⟩ = some (.int .i64 m) ∧ W.cell? ⟨h, 1, none⟩ = some (.int .i64 s.c.cells) ∧ W.cell? ⟨h, 2, none⟩ = some (.int .i64 s.c.muts) ∧ W.cell? ⟨h, 3, none⟩ = some (.int .i64 s.c.regs) ∧ W.cell? ⟨h, 4, none⟩ = some (.int .i64 s.c.globs))) (by kernel_rfl) (by exact ⟨B.b.cell 0, B.x.cell 3, B.H.blk.cell 1, B.H.blk.cell 2, B.H.blk.cell 3, B.H.blk.cell 4⟩) (fun hHeld => ?_)
  refine wpAnyH_take (i := 0) (v := ?_) rfl (by kernel_rfl) (by kernel_rfl) (by kernel_rfl) (fun _ _ _ h => h) (Or.inl ⟨by rfl, ?_⟩) (by assumption) ?_
  rotate_left
  · intro w hSw; (try dsimp only at hSw); go_simp; first | done | with_reducible rfl
  try simp only [Act.put, List.getElem_toArray, List.getElem_cons_succ, List.getElem_cons_zero, List.setIfInBounds_toArray, List.set_cons_zero, List.set_cons_succ]
  refine wpAnyH_take (i := 1) (v := ?_) rfl (by kernel_rfl) (by kernel_rfl) (by kernel_rfl) (fun _ _ _ h => h) (Or.inl ⟨by rfl, ?_⟩) (by assumption) ?_
  rotate_left
  · intro w hSw; (try dsimp only at hSw); go_simp; first | done | with_reducible rfl
  try simp only [Act.put, List.getElem_toArray, List.getElem_cons_succ, List.getElem_cons_zero, List.setIfInBounds_toArray, List.set_cons_zero, List.set_cons_succ]
  refine wpAnyH_take (i := 2) (v := ?_) rfl (by kernel_rfl) (by kernel_rfl) (by kernel_rfl) (fun _ _ _ h => h) (Or.inl ⟨by rfl, ?_⟩) (by assumption) ?_
  rotate_left
  · intro w hSw; (try dsimp only at hSw); go_simp; first | done | with_reducible rfl
  try simp only [Act.put, List.getElem_toArray, List.getElem_cons_succ, List.getElem_cons_zero, List.setIfInBounds_toArray, List.set_cons_zero, List.set_cons_succ]
  refine wpAnyH_take (i := 3) (v := ?_) rfl (by kernel_rfl) (by kernel_rfl) (by kernel_rfl) (fun _ _ _ h => h) (Or.inl ⟨by rfl, ?_⟩) (by assumption) ?_
  rotate_left
  · intro w hSw; (try dsimp only at hSw); go_simp; first | done | with_reducible rfl
  try simp only [Act.put, List.getElem_toArray, List.getElem_cons_succ, List.getElem_cons_zero, List.setIfInBounds_toArray, List.set_cons_zero, List.set_cons_succ]
  refine wpAnyH_take (i := 4) (v := ?_) rfl (by kernel_rfl) (by kernel_rfl) (by kernel_rfl) (fun _ _ _ h => h) (Or.inl ⟨by rfl, ?_⟩) (by assumption) ?_
  rotate_left
  · intro w hSw; (try dsimp only at hSw); go_simp; first | done | with_reducible rfl
  try simp only [Act.put, List.getElem_toArray, List.getElem_cons_succ, List.getElem_cons_zero, List.setIfInBounds_toArray, List.set_cons_zero, List.set_cons_succ]
  refine wpAnyH_take (i := 5) (v := ?_) rfl (by kernel_rfl) (by kernel_rfl) (by kernel_rfl) (fun _ _ _ h => h) (Or.inl ⟨by rfl, ?_⟩) (by assumption) ?_
  rotate_left
  · intro w hSw; (try dsimp only at hSw); go_simp; first | done | with_reducible rfl
  try simp only [Act.put, List.getElem_toArray, List.getElem_cons_succ, List.getElem_cons_zero, List.setIfInBounds_toArray, List.set_cons_zero, List.set_cons_succ]
  refine wpAnyH_take (i := 6) (v := ?_) rfl (by kernel_rfl) (by kernel_rfl) (by kernel_rfl) (fun _ _ _ h => h) (Or.inl ⟨by rfl, ?_⟩) (by assumption) ?_
  rotate_left
  · intro w hSw; (try dsimp only at hSw); go_simp; first | done | with_reducible rfl
  try simp only [Act.put, List.getElem_toArray, List.getElem_cons_succ, List.getElem_cons_zero, List.setIfInBounds_toArray, List.set_cons_zero, List.set_cons_succ]
  refine wpAnyH_ready (rs := [7]) (by kernel_rfl) (by simp) ?_
  refine AllReadyH.cons rfl (fun K hK => ?_) AllReadyH.nil
  go_simp
  (go_at_call 45; refine (in_any hrr _ _).mono ?_; rintro e w2 ⟨rfl, hF2⟩; (replace B := B.kept0 hF2); (replace kX := B.x.cell); (replace fX := B.x.free); (replace kB := B.b.cell); (replace kR := B.r.cell); (replace fR := B.r.free); (replace kH := B.H.cellsC (c := s.c) rfl))
  go_wp2_with fail
  refine hK.out _ _ (by exact ⟨B.b.cell 0, B.x.cell 3, B.H.blk.cell 1, B.H.blk.cell 2, B.H.blk.cell 3, B.H.blk.cell 4⟩) (fun hHeld => ?_)
  clear hK K
  try simp only [Act.put, List.getElem_toArray, List.getElem_cons_succ, List.getElem_cons_zero, List.setIfInBounds_toArray, List.set_cons_zero, List.set_cons_succ]
  refine wpAnyH_ready (rs := [8]) (by kernel_rfl) (by simp) ?_
  refine AllReadyH.cons rfl (fun K hK => ?_) AllReadyH.nil
  go_simp
  (go_at_call 126; refine (load_u hu B.H).mono ?_; rintro e w2 ⟨rfl, HH, hF2⟩; (replace B := B.hand HH hF2); clear HH; (replace kX := B.x.cell); (replace fX := B.x.free); (replace kB := B.b.cell); (replace kR := B.r.cell); (replace fR := B.r.free); (replace kH := B.H.cellsC (c := s.c) rfl))
  go_wp2_with fail
  refine hK.out _ _ (by exact ⟨B.b.cell 0, B.x.cell 3, B.H.blk.cell 1, B.H.blk.cell 2, B.H.blk.cell 3, B.H.blk.cell 4⟩) (fun hHeld => ?_)
  clear hK K
  try simp only [Act.put, List.getElem_toArray, List.getElem_cons_succ, List.getElem_cons_zero, List.setIfInBounds_toArray, List.set_cons_zero, List.set_cons_succ]
  refine wpAnyH_ready (rs := [9]) (by kernel_rfl) (by simp) ?_
  refine AllReadyH.cons rfl (fun K hK => ?_) AllReadyH.nil
  go_simp
  (go_at_call 43; refine (HSy.out _).mono ?_; rintro e w2 ⟨rfl, rfl⟩)
  go_wp2_with fail
  refine hK.out _ _ (by exact ⟨B.b.cell 0, B.x.cell 3, B.H.blk.cell 1, B.H.blk.cell 2, B.H.blk.cell 3, B.H.blk.cell 4⟩) (fun hHeld => ?_)
  clear hK K
  try simp only [Act.put, List.getElem_toArray, List.getElem_cons_succ, List.getElem_cons_zero, List.setIfInBounds_toArray, List.set_cons_zero, List.set_cons_succ]
  refine wpAnyH_take (i := 10) (v := ?_) rfl (by kernel_rfl) (by kernel_rfl) (by kernel_rfl) (fun _ _ _ h => h) (Or.inl ⟨by rfl, ?_⟩) (by assumption) ?_
  rotate_left
  · intro w hSw; (try dsimp only at hSw); go_simp; first | done | with_reducible rfl
  try simp only [Act.put, List.getElem_toArray, List.getElem_cons_succ, List.getElem_cons_zero, List.setIfInBounds_toArray, List.set_cons_zero, List.set_cons_succ]
  refine wpAnyH_done (by kernel_rfl) ?_ _
  replace kX := B.x.cell
  replace fX := B.x.free
  replace kB := B.b.cell
  replace kR := B.r.cell
  replace fR := B.r.free
  replace kH := B.H.cellsC (c := s.c) rfl
  go_wp2_with (first | fail)
  refine bodyPost_ret (v := .tuple #[.agg #[.int .i64 (12), .int .i64 (j), .int .i64 (c), .int .i64 (m), .int .u64 (a), .int .u64 (p), .bool (found), .int .i64 (tail), .int .i64 (cyc)], .bool false, .bool true]) (by simp [results, Try.results53, go_sem, kX, kR]) rfl ⟨rfl, ?_⟩
  exact B.done _ _ _ _ _ _ _ _ _


set_option maxRecDepth 100000 in
set_option maxHeartbeats 4000000 in
theorem ba11 {w : World} {h ab db : Nat} {s : HS} (H : HAt w h ab db s) (j c m a p tail cyc : Int) (found : Bool)  :
    Calls Try.prog 53 #[.pointer (some ⟨h, 0, none⟩), .agg #[.int .i64 (11), .int .i64 (j), .int .i64 (c), .int .i64 (m), .int .u64 (a), .int .u64 (p), .bool (found), .int .i64 (tail), .int .i64 (cyc)]] w fun e w' => e = .returned (.tuple #[.agg #[.int .i64 (12), .int .i64 (j), .int .i64 (c), .int .i64 (m), .int .u64 (a), .int .u64 (p), .bool (found), .int .i64 (tail), .int .i64 (cyc)], .bool false, .bool true]) ∧ (HAt w' h ab db (s.doIt (aStore 1 1)) ∧ Fr [h, db] w w') := by
  have hmf : ∀ (fn : Fn) (first cap : Array Value) (w : World), (Instr.makeFunc fn first cap).run Try.prog w = .ok (.func fn first cap) w := fun _ _ _ _ => rfl
  have B := CB.start H [.int .i64 (11), .int .i64 (j), .int .i64 (c), .int .i64 (m), .int .u64 (a), .int .u64 (p), .bool (found), .int .i64 (tail), .int .i64 (cyc)]
  have n0 := B.l1
  have n1 := B.l3
  have n2 := B.l2
  have hrr := H.right
  clear H
  simp only [zCol] at B
  replace kX := B.x.cell
  replace fX := B.x.free
  replace kB := B.b.cell
  replace kR := B.r.cell
  replace fR := B.r.free
  replace kH := B.H.cellsC (c := s.c) rfl
  go_enter Try.func53, Try.ntmps53
  go_wp2_with (first | (go_at_call 39; refine (hstore_any B.H _ _ (by omega)).mono ?_; rintro e w2 ⟨rfl, HH, hF2⟩; (replace B := B.hand HH hF2); clear HH; (replace kX := B.x.cell); (replace fX := B.x.free); (replace kB := B.b.cell); (replace kR := B.r.cell); (replace fR := B.r.free); (replace kH := B.H.cellsC (c := s.c) rfl)))
  replace B := B.set 0 (.int .i64 12)
  refine bodyPost_ret (v := .tuple #[.agg #[.int .i64 (12), .int .i64 (j), .int .i64 (c), .int .i64 (m), .int .u64 (a), .int .u64 (p), .bool (found), .int .i64 (tail), .int .i64 (cyc)], .bool false, .bool true]) (by simp [results, Try.results53, go_sem, kX, kR]) rfl ⟨rfl, ?_⟩
  exact B.done _ _ _ _ _ _ _ _ _


set_option maxRecDepth 100000 in
set_option maxHeartbeats 4000000 in
theorem ba13y {w : World} {h ab db : Nat} {s : HS} (H : HAt w h ab db s) (j c m a p tail cyc : Int) (found : Bool) (d : Int) (hd : wAt s.ws 2 = d) (h0 : (d == 0) = true) :
    Calls Try.prog 53 #[.pointer (some ⟨h, 0, none⟩), .agg #[.int .i64 (13), .int .i64 (j), .int .i64 (c), .int .i64 (m), .int .u64 (a), .int .u64 (p), .bool (found), .int .i64 (tail), .int .i64 (cyc)]] w fun e w' => e = .returned (.tuple #[.agg #[.int .i64 (14), .int .i64 (j), .int .i64 (c), .int .i64 (m), .int .u64 (a), .int .u64 (p), .bool (found), .int .i64 (tail), .int .i64 (cyc)], .bool true, .bool true]) ∧ (HAt w' h ab db (s.doIt (aLoad 2)) ∧ Fr [h, db] w w') := by
  have hmf : ∀ (fn : Fn) (first cap : Array Value) (w : World), (Instr.makeFunc fn first cap).run Try.prog w = .ok (.func fn first cap) w := fun _ _ _ _ => rfl
  have B := CB.start H [.int .i64 (13), .int .i64 (j), .int .i64 (c), .int .i64 (m), .int .u64 (a), .int .u64 (p), .bool (found), .int .i64 (tail), .int .i64 (cyc)]
  have n0 := B.l1
  have n1 := B.l3
  have n2 := B.l2
  have hrr := H.right
  clear H
  simp only [zCol] at B
  replace kX := B.x.cell
  replace fX := B.x.free
  replace kB := B.b.cell
  replace kR := B.r.cell
  replace fR := B.r.free
  replace kH := B.H.cellsC (c := s.c) rfl
  go_enter Try.func53, Try.ntmps53
  go_wp2_with (first | (go_at_call 126; refine (load2_u hd B.H).mono ?_; rintro e w2 ⟨rfl, HH, hF2⟩; (replace B := B.hand HH hF2); clear HH; (replace kX := B.x.cell); (replace fX := B.x.free); (replace kB := B.b.cell); (replace kR := B.r.cell); (replace fR := B.r.free); (replace kH := B.H.cellsC (c := s.c) rfl)))
  replace B := B.set 0 (.int .i64 14)
  refine bodyPost_ret (v := .tuple #[.agg #[.int .i64 (14), .int .i64 (j), .int .i64 (c), .int .i64 (m), .int .u64 (a), .int .u64 (p), .bool (found), .int .i64 (tail), .int .i64 (cyc)], .bool true, .bool true]) (by simp [results, Try.results53, go_sem, kX, kR]) rfl ⟨rfl, ?_⟩
  exact B.done _ _ _ _ _ _ _ _ _


set_option maxRecDepth 100000 in
set_option maxHeartbeats 4000000 in
theorem ba13n {w : World} {h ab db : Nat} {s : HS} (H : HAt w h ab db s) (j c m a p tail cyc : Int) (found : Bool) (d : Int) (hd : wAt s.ws 2 = d) (h0 : (d == 0) = false) :
    Calls Try.prog 53 #[.pointer (some ⟨h, 0, none⟩), .agg #[.int .i64 (13), .int .i64 (j), .int .i64 (c), .int .i64 (m), .int .u64 (a), .int .u64 (p), .bool (found), .int .i64 (tail), .int .i64 (cyc)]] w fun e w' => e = .returned (.tuple #[.agg #[.int .i64 (15), .int .i64 (j), .int .i64 (c), .int .i64 (m), .int .u64 (a), .int .u64 (p), .bool (found), .int .i64 (tail), .int .i64 (cyc)], .bool false, .bool true]) ∧ (HAt w' h ab db (s.doIt (aLoad 2)) ∧ Fr [h, db] w w') := by
  have hmf : ∀ (fn : Fn) (first cap : Array Value) (w : World), (Instr.makeFunc fn first cap).run Try.prog w = .ok (.func fn first cap) w := fun _ _ _ _ => rfl
  have B := CB.start H [.int .i64 (13), .int .i64 (j), .int .i64 (c), .int .i64 (m), .int .u64 (a), .int .u64 (p), .bool (found), .int .i64 (tail), .int .i64 (cyc)]
  have n0 := B.l1
  have n1 := B.l3
  have n2 := B.l2
  have hrr := H.right
  clear H
  simp only [zCol] at B
  replace kX := B.x.cell
  replace fX := B.x.free
  replace kB := B.b.cell
  replace kR := B.r.cell
  replace fR := B.r.free
  replace kH := B.H.cellsC (c := s.c) rfl
  go_enter Try.func53, Try.ntmps53
  go_wp2_with (first | (go_at_call 126; refine (load2_u hd B.H).mono ?_; rintro e w2 ⟨rfl, HH, hF2⟩; (replace B := B.hand HH hF2); clear HH; (replace kX := B.x.cell); (replace fX := B.x.free); (replace kB := B.b.cell); (replace kR := B.r.cell); (replace fR := B.r.free); (replace kH := B.H.cellsC (c := s.c) rfl)))
  replace B := B.set 0 (.int .i64 15)
  refine bodyPost_ret (v := .tuple #[.agg #[.int .i64 (15), .int .i64 (j), .int .i64 (c), .int .i64 (m), .int .u64 (a), .int .u64 (p), .bool (found), .int .i64 (tail), .int .i64 (cyc)], .bool false, .bool true]) (by simp [results, Try.results53, go_sem, kX, kR]) rfl ⟨rfl, ?_⟩
  exact B.done _ _ _ _ _ _ _ _ _


set_option maxRecDepth 100000 in
set_option maxHeartbeats 4000000 in
theorem ba14 {w : World} {h ab db : Nat} {s : HS} (H : HAt w h ab db s) (j c m a p tail cyc : Int) (found : Bool)  :
    Calls Try.prog 53 #[.pointer (some ⟨h, 0, none⟩), .agg #[.int .i64 (14), .int .i64 (j), .int .i64 (c), .int .i64 (m), .int .u64 (a), .int .u64 (p), .bool (found), .int .i64 (tail), .int .i64 (cyc)]] w fun e w' => e = .returned (.tuple #[.agg #[.int .i64 (20), .int .i64 (j), .int .i64 (0), .int .i64 (m), .int .u64 (a), .int .u64 (p), .bool (found), .int .i64 (tail), .int .i64 (cyc)], .bool false, .bool true]) ∧ (HAt w' h ab db (s.doIt (aStore 1 0)) ∧ Fr [h, db] w w') := by
  have hmf : ∀ (fn : Fn) (first cap : Array Value) (w : World), (Instr.makeFunc fn first cap).run Try.prog w = .ok (.func fn first cap) w := fun _ _ _ _ => rfl
  have B := CB.start H [.int .i64 (14), .int .i64 (j), .int .i64 (c), .int .i64 (m), .int .u64 (a), .int .u64 (p), .bool (found), .int .i64 (tail), .int .i64 (cyc)]
  have n0 := B.l1
  have n1 := B.l3
  have n2 := B.l2
  have hrr := H.right
  clear H
  simp only [zCol] at B
  replace kX := B.x.cell
  replace fX := B.x.free
  replace kB := B.b.cell
  replace kR := B.r.cell
  replace fR := B.r.free
  replace kH := B.H.cellsC (c := s.c) rfl
  go_enter Try.func53, Try.ntmps53
  go_wp2_with (first | (go_at_call 39; refine (hstore_any B.H _ _ (by omega)).mono ?_; rintro e w2 ⟨rfl, HH, hF2⟩; (replace B := B.hand HH hF2); clear HH; (replace kX := B.x.cell); (replace fX := B.x.free); (replace kB := B.b.cell); (replace kR := B.r.cell); (replace fR := B.r.free); (replace kH := B.H.cellsC (c := s.c) rfl)))
  replace B := B.set 2 (.int .i64 0)
  replace B := B.set 0 (.int .i64 20)
  refine bodyPost_ret (v := .tuple #[.agg #[.int .i64 (20), .int .i64 (j), .int .i64 (0), .int .i64 (m), .int .u64 (a), .int .u64 (p), .bool (found), .int .i64 (tail), .int .i64 (cyc)], .bool false, .bool true]) (by simp [results, Try.results53, go_sem, kX, kR]) rfl ⟨rfl, ?_⟩
  exact B.done _ _ _ _ _ _ _ _ _


set_option maxRecDepth 100000 in
set_option maxHeartbeats 4000000 in
theorem ba15 {w : World} {h ab db : Nat} {s : HS} (H : HAt w h ab db s) (j c m a p tail cyc : Int) (found : Bool)  :
    Calls Try.prog 53 #[.pointer (some ⟨h, 0, none⟩), .agg #[.int .i64 (15), .int .i64 (j), .int .i64 (c), .int .i64 (m), .int .u64 (a), .int .u64 (p), .bool (found), .int .i64 (tail), .int .i64 (cyc)]] w fun e w' => e = .returned (.tuple #[.agg #[.int .i64 (3), .int .i64 (j), .int .i64 (c), .int .i64 (m), .int .u64 (a), .int .u64 (p), .bool (found), .int .i64 (tail), .int .i64 (cyc)], .bool false, .bool true]) ∧ (HAt w' h ab db (s.doIt (aStore 1 0)) ∧ Fr [h, db] w w') := by
  have hmf : ∀ (fn : Fn) (first cap : Array Value) (w : World), (Instr.makeFunc fn first cap).run Try.prog w = .ok (.func fn first cap) w := fun _ _ _ _ => rfl
  have B := CB.start H [.int .i64 (15), .int .i64 (j), .int .i64 (c), .int .i64 (m), .int .u64 (a), .int .u64 (p), .bool (found), .int .i64 (tail), .int .i64 (cyc)]
  have n0 := B.l1
  have n1 := B.l3
  have n2 := B.l2
  have hrr := H.right
  clear H
  simp only [zCol] at B
  replace kX := B.x.cell
  replace fX := B.x.free
  replace kB := B.b.cell
  replace kR := B.r.cell
  replace fR := B.r.free
  replace kH := B.H.cellsC (c := s.c) rfl
  go_enter Try.func53, Try.ntmps53
  go_wp2_with (first | (go_at_call 39; refine (hstore_any B.H _ _ (by omega)).mono ?_; rintro e w2 ⟨rfl, HH, hF2⟩; (replace B := B.hand HH hF2); clear HH; (replace kX := B.x.cell); (replace fX := B.x.free); (replace kB := B.b.cell); (replace kR := B.r.cell); (replace fR := B.r.free); (replace kH := B.H.cellsC (c := s.c) rfl)))
  replace B := B.set 0 (.int .i64 3)
  refine bodyPost_ret (v := .tuple #[.agg #[.int .i64 (3), .int .i64 (j), .int .i64 (c), .int .i64 (m), .int .u64 (a), .int .u64 (p), .bool (found), .int .i64 (tail), .int .i64 (cyc)], .bool false, .bool true]) (by simp [results, Try.results53, go_sem, kX, kR]) rfl ⟨rfl, ?_⟩
  exact B.done _ _ _ _ _ _ _ _ _


set_option maxRecDepth 100000 in
set_option maxHeartbeats 4000000 in
theorem bano {w : World} {h ab db : Nat} {s : HS} (H : HAt w h ab db s) (line j c m a p tail cyc : Int) (found : Bool) (k1 : ¬ line = 10) (k2 : ¬ line = 16) (k3 : ¬ line = 11) (k4 : ¬ line = 12) (k5 : ¬ line = 13) (k6 : ¬ line = 14) (k7 : ¬ line = 15) :
    Calls Try.prog 53 #[.pointer (some ⟨h, 0, none⟩), .agg #[.int .i64 (line), .int .i64 (j), .int .i64 (c), .int .i64 (m), .int .u64 (a), .int .u64 (p), .bool (found), .int .i64 (tail), .int .i64 (cyc)]] w fun e w' => e = .returned (.tuple #[.agg #[.int .i64 (line), .int .i64 (j), .int .i64 (c), .int .i64 (m), .int .u64 (a), .int .u64 (p), .bool (found), .int .i64 (tail), .int .i64 (cyc)], .bool false, .bool false]) ∧ (HAt w' h ab db (s) ∧ Fr [h, db] w w') := by
  have hmf : ∀ (fn : Fn) (first cap : Array Value) (w : World), (Instr.makeFunc fn first cap).run Try.prog w = .ok (.func fn first cap) w := fun _ _ _ _ => rfl
  have B := CB.start H [.int .i64 (line), .int .i64 (j), .int .i64 (c), .int .i64 (m), .int .u64 (a), .int .u64 (p), .bool (found), .int .i64 (tail), .int .i64 (cyc)]
  have n0 := B.l1
  have n1 := B.l3
  have n2 := B.l2
  have hrr := H.right
  have HNo := ((H.alloc (.cells #[.pointer (some ⟨h, 0, none⟩)] 46)).alloc (.cells #[.int .i64 (line), .int .i64 (j), .int .i64 (c), .int .i64 (m), .int .u64 (a), .int .u64 (p), .bool (found), .int .i64 (tail), .int .i64 (cyc)] 81)).alloc (.cells #[.int .i64 (line), .int .i64 (j), .int .i64 (c), .int .i64 (m), .int .u64 (a), .int .u64 (p), .bool (found), .int .i64 (tail), .int .i64 (cyc)] 81)
  have FNo := (((Fr.refl [h, db] w).alloc (.cells #[.pointer (some ⟨h, 0, none⟩)] 46)).alloc (.cells #[.int .i64 (line), .int .i64 (j), .int .i64 (c), .int .i64 (m), .int .u64 (a), .int .u64 (p), .bool (found), .int .i64 (tail), .int .i64 (cyc)] 81)).alloc (.cells #[.int .i64 (line), .int .i64 (j), .int .i64 (c), .int .i64 (m), .int .u64 (a), .int .u64 (p), .bool (found), .int .i64 (tail), .int .i64 (cyc)] 81)
  clear H
  simp only [zCol] at B
  replace kX := B.x.cell
  replace fX := B.x.free
  replace kB := B.b.cell
  replace kR := B.r.cell
  replace fR := B.r.free
  replace kH := B.H.cellsC (c := s.c) rfl
  go_enter Try.func53, Try.ntmps53
  go_wp2_with fail
  refine bodyPost_ret (v := .tuple #[.agg #[.int .i64 (line), .int .i64 (j), .int .i64 (c), .int .i64 (m), .int .u64 (a), .int .u64 (p), .bool (found), .int .i64 (tail), .int .i64 (cyc)], .bool false, .bool false]) (by simp [results, Try.results53, go_sem]) rfl ⟨rfl, ?_⟩
  exact ⟨HNo, FNo⟩


theorem banil (w : World) (line j c m a p tail cyc : Int) (found : Bool) :
    Calls Try.prog 53 #[.pointer none, .agg #[.int .i64 (line), .int .i64 (j), .int .i64 (c), .int .i64 (m), .int .u64 (a), .int .u64 (p), .bool (found), .int .i64 (tail), .int .i64 (cyc)]] w fun e w' => e = .returned (.tuple #[.agg #[.int .i64 (line), .int .i64 (j), .int .i64 (c), .int .i64 (m), .int .u64 (a), .int .u64 (p), .bool (found), .int .i64 (tail), .int .i64 (cyc)], .bool false, .bool false]) ∧ Fr [] w w' := by
  go_enter Try.func53, Try.ntmps53
  go_wp2
  exact bodyPost_ret (v := .tuple #[.agg #[.int .i64 (line), .int .i64 (j), .int .i64 (c), .int .i64 (m), .int .u64 (a), .int .u64 (p), .bool (found), .int .i64 (tail), .int .i64 (cyc)], .bool false, .bool false]) (by simp [results, Try.results53, go_sem]) rfl ⟨rfl, (((Fr.refl _ _).alloc _).alloc _).alloc _⟩

end Go.Proofs.Ytolkgdchinaonaa
