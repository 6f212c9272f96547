/- mudlarkref15.Step line by line. -/
import Derived.Test.YteggckdgjecfmaaBarrierRef
import Derived.Test.YteggckdgjecfmaaRoots
namespace Go.Proofs.Yteggckdgjecfmaa
open Go.RowKit
set_option linter.unusedVariables false
set_option linter.unusedSimpArgs false

theorem RAt.cellsC {w : World} {r rd cap : Nat} {ext : List Value} {s : HS} (H : RAt w r rd cap ext s) {c : Cfg} (e : s.c = c) : ∀ i, w.cell? ⟨r, i, none⟩ = (rcs rd s.ws.length cap c s.acc)[i]? := by
  subst e
  exact H.blk.cell

set_option maxRecDepth 100000 in
set_option maxHeartbeats 4000000 in
theorem rrs1na {w : World} {r rd cap : Nat} {ext : List Value} {s : HS} (H : RAt w r rd cap ext s)  (j c m a p tail cyc : Int) (found : Bool) (hj : -1000000 ≤ j ∧ j ≤ 1000000) (hn : isCell (wAt s.ws (s.c.rootP j)) = false) (hl : j + 1 < s.c.roots) :
    Calls Try.prog 148 #[.pointer (some ⟨r, 0, none⟩), .agg #[.int .i64 (1), .int .i64 j, .int .i64 c, .int .i64 m, .int .u64 a, .int .u64 p, .bool (found), .int .i64 tail, .int .i64 cyc]] w fun e w' => e = .returned (.tuple #[.agg #[.int .i64 (1), .int .i64 ((j + 1)), .int .i64 c, .int .i64 m, .int .u64 a, .int .u64 (0), .bool (found), .int .i64 tail, .int .i64 cyc], .bool true]) ∧ (RAt w' r rd cap ext (s.doIt (aLoad (s.c.rootP j))) ∧ Fr [r, rd] w w') := by
  have n0 := H.blk.lt
  have n1 := H.ar.dat.lt
  have hXn : w.heap.size ∉ [r, rd] := by simp; omega
  have hRn : w.heap.size + 1 ∉ [r, rd] := by simp; omega
  replace HH := (H.alloc (.cells #[.int .i64 (1), .int .i64 j, .int .i64 c, .int .i64 m, .int .u64 a, .int .u64 p, .bool (found), .int .i64 tail, .int .i64 cyc] 86)).alloc (.cells #[.int .i64 0, .int .i64 0, .int .i64 0, .int .i64 0, .int .u64 0, .int .u64 0, .bool false, .int .i64 0, .int .i64 0] 86)
  replace hX := (Blk.new w [.int .i64 (1), .int .i64 j, .int .i64 c, .int .i64 m, .int .u64 a, .int .u64 p, .bool (found), .int .i64 tail, .int .i64 cyc] 86).alloc (.cells #[.int .i64 0, .int .i64 0, .int .i64 0, .int .i64 0, .int .u64 0, .int .u64 0, .bool false, .int .i64 0, .int .i64 0] 86)
  replace hR := Blk.new (w.alloc (.cells #[.int .i64 (1), .int .i64 j, .int .i64 c, .int .i64 m, .int .u64 a, .int .u64 p, .bool (found), .int .i64 tail, .int .i64 cyc] 86)) [.int .i64 0, .int .i64 0, .int .i64 0, .int .i64 0, .int .u64 0, .int .u64 0, .bool false, .int .i64 0, .int .i64 0] 86
  simp only [World.size_alloc] at hR
  replace hFF := ((Fr.refl [r, rd] w).alloc (.cells #[.int .i64 (1), .int .i64 j, .int .i64 c, .int .i64 m, .int .u64 a, .int .u64 p, .bool (found), .int .i64 tail, .int .i64 cyc] 86)).alloc (.cells #[.int .i64 0, .int .i64 0, .int .i64 0, .int .i64 0, .int .u64 0, .int .u64 0, .bool false, .int .i64 0, .int .i64 0] 86)
  have a1 : r ≠ w.heap.size := by omega
  have a2 : rd ≠ w.heap.size := by omega
  have b1 : r ≠ w.heap.size + 1 := by omega
  have b2 : rd ≠ w.heap.size + 1 := by omega
  have d1 : ¬ w.heap.size = r := by omega
  have d2 : ¬ w.heap.size = rd := by omega
  have d3 : ¬ w.heap.size + 1 = r := by omega
  have d4 : ¬ w.heap.size + 1 = rd := by omega
  have hjw : IntKind.i64.wrap (j + 1) = j + 1 := w64 _ (by omega)
  have hrr := H.right
  have hb := H.ar.bd (s.c.rootP j)
  have hb0 := hb.1
  have hb1 := hb.2
  clear hb
  have hci := fun W => by have := rIsCell_any (wAt s.ws (s.c.rootP j)) hb0 hb1 W; rw [cellN_no hn] at this; exact this
  have hci := fun W => hid (hci W)
  go_enter Try.func148, Try.ntmps148
  go_wp2_with fail
  replace HH := HH.drew
  replace hX := hX.drew
  replace hR := hR.drew
  replace hFF := hFF.drew
  replace kX := hX.cell
  replace fX := hX.free
  replace kR := hR.cell
  replace fR := hR.free
  replace kH := HH.cellsC (c := s.c) rfl
  go_region_held3 (fun w' => w'.cell? ⟨w.heap.size, 1, none⟩ = some (.int .i64 j) ∧ w'.cell? ⟨r, 0, none⟩ = some (.int .i64 s.c.cells) ∧ w'.cell? ⟨r, 1, none⟩ = some (.int .i64 s.c.muts) ∧ w'.cell? ⟨r, 2, none⟩ = some (.int .i64 s.c.regs) ∧ w'.cell? ⟨r, 3, none⟩ = some (.int .i64 s.c.globs)) (go_keep)
    (first | (go_at_call 75; refine (rRoot_any HH.right _ (by omega) _).mono ?_; rintro e w2 ⟨rfl, hF2⟩; (replace HH := HH.kept0 hF2); (replace hX := hX.kept hF2 (by simp)); (replace hR := hR.kept hF2 (by simp)); (replace hFF := hFF.trans (hF2.mono (by simp))); (replace kX := hX.cell); (replace fX := hX.free); (replace kR := hR.cell); (replace fR := hR.free); (replace kH := HH.cellsC (c := s.c) rfl)) | (go_at_call 132; refine (rhload_any HH _).mono ?_; rintro e w2 ⟨rfl, HH, hF2⟩; (replace hX := hX.kept hF2 hXn); (replace hR := hR.kept hF2 hRn); (replace hFF := hFF.trans hF2); (replace kX := hX.cell); (replace fX := hX.free); (replace kR := hR.cell); (replace fR := hR.free); (replace kH := HH.cellsC (c := s.c) rfl)))
  go_wp2_with (first | (go_at_call 57; refine (hci _).out.mono ?_; rintro e w2 ⟨rfl, rfl⟩))
  replace hX := (((hX.set 5 (.int .u64 0)).set 1 (.int .i64 (j + 1))).set 0 (.int .i64 3))
  simp only [List.set_cons_zero, List.set_cons_succ] at hX
  replace HH := (((HH.other (p := ⟨w.heap.size, 5, none⟩) a1 a2 (.int .u64 0)).other (p := ⟨w.heap.size, 1, none⟩) a1 a2 (.int .i64 (j + 1))).other (p := ⟨w.heap.size, 0, none⟩) a1 a2 (.int .i64 3))
  replace hR := (((hR.other (p := ⟨w.heap.size, 5, none⟩) (Nat.succ_ne_self _) (.int .u64 0)).other (p := ⟨w.heap.size, 1, none⟩) (Nat.succ_ne_self _) (.int .i64 (j + 1))).other (p := ⟨w.heap.size, 0, none⟩) (Nat.succ_ne_self _) (.int .i64 3))
  replace hFF := (((hFF.setNew (p := ⟨w.heap.size, 5, none⟩) (Nat.le_refl _) (.int .u64 0)).setNew (p := ⟨w.heap.size, 1, none⟩) (Nat.le_refl _) (.int .i64 (j + 1))).setNew (p := ⟨w.heap.size, 0, none⟩) (Nat.le_refl _) (.int .i64 3))
  replace kX := hX.cell
  replace fX := hX.free
  replace kR := hR.cell
  replace fR := hR.free
  replace kH := HH.cellsC (c := s.c) rfl
  replace HH := HH.drew
  replace hX := hX.drew
  replace hR := hR.drew
  replace hFF := hFF.drew
  replace kX := hX.cell
  replace fX := hX.free
  replace kR := hR.cell
  replace fR := hR.free
  replace kH := HH.cellsC (c := s.c) rfl
  go_region_held3 (fun w' => w'.cell? ⟨w.heap.size, 1, none⟩ = some (.int .i64 (j + 1)) ∧ w'.cell? ⟨r, 0, none⟩ = some (.int .i64 s.c.cells) ∧ w'.cell? ⟨r, 1, none⟩ = some (.int .i64 s.c.muts) ∧ w'.cell? ⟨r, 2, none⟩ = some (.int .i64 s.c.regs) ∧ w'.cell? ⟨r, 3, none⟩ = some (.int .i64 s.c.globs)) (go_keep)
    (first | (go_at_call 72; refine (rRoots_any hrr _).mono ?_; rintro e w2 ⟨rfl, hF2⟩; (replace HH := HH.kept0 hF2); (replace hX := hX.kept hF2 (by simp)); (replace hR := hR.kept hF2 (by simp)); (replace hFF := hFF.trans (hF2.mono (by simp))); (replace kX := hX.cell); (replace fX := hX.free); (replace kR := hR.cell); (replace fR := hR.free); (replace kH := HH.cellsC (c := s.c) rfl)))
  go_wp2
  refine bodyPost_ret (v := .tuple #[.agg #[.int .i64 (1), .int .i64 ((j + 1)), .int .i64 c, .int .i64 m, .int .u64 a, .int .u64 (0), .bool (found), .int .i64 tail, .int .i64 cyc], .bool true]) (by simp [results, Try.results148, go_sem, kX, kR]) rfl ⟨rfl, ?_, ?_⟩
  · repeat (first | with_reducible exact HH | with_reducible refine RAt.other ?_ a1 a2 _ | with_reducible refine RAt.other ?_ b1 b2 _)
  · repeat (first | with_reducible exact hFF | with_reducible refine Fr.setNew ?_ (Nat.le_refl _) _ | with_reducible refine Fr.setNew ?_ (Nat.le_succ _) _)

set_option maxRecDepth 100000 in
set_option maxHeartbeats 4000000 in
theorem rrs2a {w : World} {r rd cap : Nat} {ext : List Value} {s : HS} (H : RAt w r rd cap ext s)  (j c m a p tail cyc : Int) (found : Bool) (hj : -1000000 ≤ j ∧ j ≤ 1000000) (hp0 : 0 ≤ p) (hp1 : p < 18446744073709551616) (hl : j + 1 < s.c.roots) :
    Calls Try.prog 148 #[.pointer (some ⟨r, 0, none⟩), .agg #[.int .i64 (2), .int .i64 j, .int .i64 c, .int .i64 m, .int .u64 a, .int .u64 p, .bool (found), .int .i64 tail, .int .i64 cyc]] w fun e w' => e = .returned (.tuple #[.agg #[.int .i64 (1), .int .i64 ((j + 1)), .int .i64 c, .int .i64 m, .int .u64 a, .int .u64 (0), .bool (found), .int .i64 tail, .int .i64 cyc], .bool true]) ∧ (RAt w' r rd cap ext (s.doIt (aCas (s.c.fieldP p 2) 0 1)) ∧ Fr [r, rd] w w') := by
  have n0 := H.blk.lt
  have n1 := H.ar.dat.lt
  have hXn : w.heap.size ∉ [r, rd] := by simp; omega
  have hRn : w.heap.size + 1 ∉ [r, rd] := by simp; omega
  replace HH := (H.alloc (.cells #[.int .i64 (2), .int .i64 j, .int .i64 c, .int .i64 m, .int .u64 a, .int .u64 p, .bool (found), .int .i64 tail, .int .i64 cyc] 86)).alloc (.cells #[.int .i64 0, .int .i64 0, .int .i64 0, .int .i64 0, .int .u64 0, .int .u64 0, .bool false, .int .i64 0, .int .i64 0] 86)
  replace hX := (Blk.new w [.int .i64 (2), .int .i64 j, .int .i64 c, .int .i64 m, .int .u64 a, .int .u64 p, .bool (found), .int .i64 tail, .int .i64 cyc] 86).alloc (.cells #[.int .i64 0, .int .i64 0, .int .i64 0, .int .i64 0, .int .u64 0, .int .u64 0, .bool false, .int .i64 0, .int .i64 0] 86)
  replace hR := Blk.new (w.alloc (.cells #[.int .i64 (2), .int .i64 j, .int .i64 c, .int .i64 m, .int .u64 a, .int .u64 p, .bool (found), .int .i64 tail, .int .i64 cyc] 86)) [.int .i64 0, .int .i64 0, .int .i64 0, .int .i64 0, .int .u64 0, .int .u64 0, .bool false, .int .i64 0, .int .i64 0] 86
  simp only [World.size_alloc] at hR
  replace hFF := ((Fr.refl [r, rd] w).alloc (.cells #[.int .i64 (2), .int .i64 j, .int .i64 c, .int .i64 m, .int .u64 a, .int .u64 p, .bool (found), .int .i64 tail, .int .i64 cyc] 86)).alloc (.cells #[.int .i64 0, .int .i64 0, .int .i64 0, .int .i64 0, .int .u64 0, .int .u64 0, .bool false, .int .i64 0, .int .i64 0] 86)
  have a1 : r ≠ w.heap.size := by omega
  have a2 : rd ≠ w.heap.size := by omega
  have b1 : r ≠ w.heap.size + 1 := by omega
  have b2 : rd ≠ w.heap.size + 1 := by omega
  have d1 : ¬ w.heap.size = r := by omega
  have d2 : ¬ w.heap.size = rd := by omega
  have d3 : ¬ w.heap.size + 1 = r := by omega
  have d4 : ¬ w.heap.size + 1 = rd := by omega
  have hjw : IntKind.i64.wrap (j + 1) = j + 1 := w64 _ (by omega)
  have hrr := H.right
  go_enter Try.func148, Try.ntmps148
  go_wp2_with (first | (go_at_call 145; refine (RAt.field HH _ _ (by omega) (by omega)).mono ?_; rintro e w2 ⟨rfl, hF2⟩; (replace HH := HH.kept0 hF2); (replace hX := hX.kept hF2 (by simp)); (replace hR := hR.kept hF2 (by simp)); (replace hFF := hFF.trans (hF2.mono (by simp))); (replace kX := hX.cell); (replace fX := hX.free); (replace kR := hR.cell); (replace fR := hR.free); (replace kH := HH.cellsC (c := s.c) rfl)) | (go_at_call 144; refine (rhcas_any HH _ _ _ (by omega) (by omega)).mono ?_; rintro e w2 ⟨rfl, HH, hF2⟩; (replace hX := hX.kept hF2 hXn); (replace hR := hR.kept hF2 hRn); (replace hFF := hFF.trans hF2); (replace kX := hX.cell); (replace fX := hX.free); (replace kR := hR.cell); (replace fR := hR.free); (replace kH := HH.cellsC (c := s.c) rfl)))
  replace hX := (((hX.set 5 (.int .u64 0)).set 1 (.int .i64 (j + 1))).set 0 (.int .i64 3))
  simp only [List.set_cons_zero, List.set_cons_succ] at hX
  replace HH := (((HH.other (p := ⟨w.heap.size, 5, none⟩) a1 a2 (.int .u64 0)).other (p := ⟨w.heap.size, 1, none⟩) a1 a2 (.int .i64 (j + 1))).other (p := ⟨w.heap.size, 0, none⟩) a1 a2 (.int .i64 3))
  replace hR := (((hR.other (p := ⟨w.heap.size, 5, none⟩) (Nat.succ_ne_self _) (.int .u64 0)).other (p := ⟨w.heap.size, 1, none⟩) (Nat.succ_ne_self _) (.int .i64 (j + 1))).other (p := ⟨w.heap.size, 0, none⟩) (Nat.succ_ne_self _) (.int .i64 3))
  replace hFF := (((hFF.setNew (p := ⟨w.heap.size, 5, none⟩) (Nat.le_refl _) (.int .u64 0)).setNew (p := ⟨w.heap.size, 1, none⟩) (Nat.le_refl _) (.int .i64 (j + 1))).setNew (p := ⟨w.heap.size, 0, none⟩) (Nat.le_refl _) (.int .i64 3))
  replace kX := hX.cell
  replace fX := hX.free
  replace kR := hR.cell
  replace fR := hR.free
  replace kH := HH.cellsC (c := s.c) rfl
  replace HH := HH.drew
  replace hX := hX.drew
  replace hR := hR.drew
  replace hFF := hFF.drew
  replace kX := hX.cell
  replace fX := hX.free
  replace kR := hR.cell
  replace fR := hR.free
  replace kH := HH.cellsC (c := s.c) rfl
  go_region_held3 (fun w' => w'.cell? ⟨w.heap.size, 1, none⟩ = some (.int .i64 (j + 1)) ∧ w'.cell? ⟨r, 0, none⟩ = some (.int .i64 s.c.cells) ∧ w'.cell? ⟨r, 1, none⟩ = some (.int .i64 s.c.muts) ∧ w'.cell? ⟨r, 2, none⟩ = some (.int .i64 s.c.regs) ∧ w'.cell? ⟨r, 3, none⟩ = some (.int .i64 s.c.globs)) (go_keep)
    (first | (go_at_call 72; refine (rRoots_any hrr _).mono ?_; rintro e w2 ⟨rfl, hF2⟩; (replace HH := HH.kept0 hF2); (replace hX := hX.kept hF2 (by simp)); (replace hR := hR.kept hF2 (by simp)); (replace hFF := hFF.trans (hF2.mono (by simp))); (replace kX := hX.cell); (replace fX := hX.free); (replace kR := hR.cell); (replace fR := hR.free); (replace kH := HH.cellsC (c := s.c) rfl)))
  go_wp2
  refine bodyPost_ret (v := .tuple #[.agg #[.int .i64 (1), .int .i64 ((j + 1)), .int .i64 c, .int .i64 m, .int .u64 a, .int .u64 (0), .bool (found), .int .i64 tail, .int .i64 cyc], .bool true]) (by simp [results, Try.results148, go_sem, kX, kR]) rfl ⟨rfl, ?_, ?_⟩
  · repeat (first | with_reducible exact HH | with_reducible refine RAt.other ?_ a1 a2 _ | with_reducible refine RAt.other ?_ b1 b2 _)
  · repeat (first | with_reducible exact hFF | with_reducible refine Fr.setNew ?_ (Nat.le_refl _) _ | with_reducible refine Fr.setNew ?_ (Nat.le_succ _) _)

set_option maxRecDepth 100000 in
set_option maxHeartbeats 4000000 in
theorem rrs1nb {w : World} {r rd cap : Nat} {ext : List Value} {s : HS} (H : RAt w r rd cap ext s)  (j c m a p tail cyc : Int) (found : Bool) (hj : -1000000 ≤ j ∧ j ≤ 1000000) (hn : isCell (wAt s.ws (s.c.rootP j)) = false) (hl : ¬ j + 1 < s.c.roots) :
    Calls Try.prog 148 #[.pointer (some ⟨r, 0, none⟩), .agg #[.int .i64 (1), .int .i64 j, .int .i64 c, .int .i64 m, .int .u64 a, .int .u64 p, .bool (found), .int .i64 tail, .int .i64 cyc]] w fun e w' => e = .returned (.tuple #[.agg #[.int .i64 (3), .int .i64 ((j + 1)), .int .i64 c, .int .i64 m, .int .u64 a, .int .u64 (0), .bool (found), .int .i64 tail, .int .i64 cyc], .bool true]) ∧ (RAt w' r rd cap ext (s.doIt (aLoad (s.c.rootP j))) ∧ Fr [r, rd] w w') := by
  have n0 := H.blk.lt
  have n1 := H.ar.dat.lt
  have hXn : w.heap.size ∉ [r, rd] := by simp; omega
  have hRn : w.heap.size + 1 ∉ [r, rd] := by simp; omega
  replace HH := (H.alloc (.cells #[.int .i64 (1), .int .i64 j, .int .i64 c, .int .i64 m, .int .u64 a, .int .u64 p, .bool (found), .int .i64 tail, .int .i64 cyc] 86)).alloc (.cells #[.int .i64 0, .int .i64 0, .int .i64 0, .int .i64 0, .int .u64 0, .int .u64 0, .bool false, .int .i64 0, .int .i64 0] 86)
  replace hX := (Blk.new w [.int .i64 (1), .int .i64 j, .int .i64 c, .int .i64 m, .int .u64 a, .int .u64 p, .bool (found), .int .i64 tail, .int .i64 cyc] 86).alloc (.cells #[.int .i64 0, .int .i64 0, .int .i64 0, .int .i64 0, .int .u64 0, .int .u64 0, .bool false, .int .i64 0, .int .i64 0] 86)
  replace hR := Blk.new (w.alloc (.cells #[.int .i64 (1), .int .i64 j, .int .i64 c, .int .i64 m, .int .u64 a, .int .u64 p, .bool (found), .int .i64 tail, .int .i64 cyc] 86)) [.int .i64 0, .int .i64 0, .int .i64 0, .int .i64 0, .int .u64 0, .int .u64 0, .bool false, .int .i64 0, .int .i64 0] 86
  simp only [World.size_alloc] at hR
  replace hFF := ((Fr.refl [r, rd] w).alloc (.cells #[.int .i64 (1), .int .i64 j, .int .i64 c, .int .i64 m, .int .u64 a, .int .u64 p, .bool (found), .int .i64 tail, .int .i64 cyc] 86)).alloc (.cells #[.int .i64 0, .int .i64 0, .int .i64 0, .int .i64 0, .int .u64 0, .int .u64 0, .bool false, .int .i64 0, .int .i64 0] 86)
  have a1 : r ≠ w.heap.size := by omega
  have a2 : rd ≠ w.heap.size := by omega
  have b1 : r ≠ w.heap.size + 1 := by omega
  have b2 : rd ≠ w.heap.size + 1 := by omega
  have d1 : ¬ w.heap.size = r := by omega
  have d2 : ¬ w.heap.size = rd := by omega
  have d3 : ¬ w.heap.size + 1 = r := by omega
  have d4 : ¬ w.heap.size + 1 = rd := by omega
  have hjw : IntKind.i64.wrap (j + 1) = j + 1 := w64 _ (by omega)
  have hrr := H.right
  have hb := H.ar.bd (s.c.rootP j)
  have hb0 := hb.1
  have hb1 := hb.2
  clear hb
  have hci := fun W => by have := rIsCell_any (wAt s.ws (s.c.rootP j)) hb0 hb1 W; rw [cellN_no hn] at this; exact this
  have hci := fun W => hid (hci W)
  go_enter Try.func148, Try.ntmps148
  go_wp2_with fail
  replace HH := HH.drew
  replace hX := hX.drew
  replace hR := hR.drew
  replace hFF := hFF.drew
  replace kX := hX.cell
  replace fX := hX.free
  replace kR := hR.cell
  replace fR := hR.free
  replace kH := HH.cellsC (c := s.c) rfl
  go_region_held3 (fun w' => w'.cell? ⟨w.heap.size, 1, none⟩ = some (.int .i64 j) ∧ w'.cell? ⟨r, 0, none⟩ = some (.int .i64 s.c.cells) ∧ w'.cell? ⟨r, 1, none⟩ = some (.int .i64 s.c.muts) ∧ w'.cell? ⟨r, 2, none⟩ = some (.int .i64 s.c.regs) ∧ w'.cell? ⟨r, 3, none⟩ = some (.int .i64 s.c.globs)) (go_keep)
    (first | (go_at_call 75; refine (rRoot_any HH.right _ (by omega) _).mono ?_; rintro e w2 ⟨rfl, hF2⟩; (replace HH := HH.kept0 hF2); (replace hX := hX.kept hF2 (by simp)); (replace hR := hR.kept hF2 (by simp)); (replace hFF := hFF.trans (hF2.mono (by simp))); (replace kX := hX.cell); (replace fX := hX.free); (replace kR := hR.cell); (replace fR := hR.free); (replace kH := HH.cellsC (c := s.c) rfl)) | (go_at_call 132; refine (rhload_any HH _).mono ?_; rintro e w2 ⟨rfl, HH, hF2⟩; (replace hX := hX.kept hF2 hXn); (replace hR := hR.kept hF2 hRn); (replace hFF := hFF.trans hF2); (replace kX := hX.cell); (replace fX := hX.free); (replace kR := hR.cell); (replace fR := hR.free); (replace kH := HH.cellsC (c := s.c) rfl)))
  go_wp2_with (first | (go_at_call 57; refine (hci _).out.mono ?_; rintro e w2 ⟨rfl, rfl⟩))
  replace hX := (((hX.set 5 (.int .u64 0)).set 1 (.int .i64 (j + 1))).set 0 (.int .i64 3))
  simp only [List.set_cons_zero, List.set_cons_succ] at hX
  replace HH := (((HH.other (p := ⟨w.heap.size, 5, none⟩) a1 a2 (.int .u64 0)).other (p := ⟨w.heap.size, 1, none⟩) a1 a2 (.int .i64 (j + 1))).other (p := ⟨w.heap.size, 0, none⟩) a1 a2 (.int .i64 3))
  replace hR := (((hR.other (p := ⟨w.heap.size, 5, none⟩) (Nat.succ_ne_self _) (.int .u64 0)).other (p := ⟨w.heap.size, 1, none⟩) (Nat.succ_ne_self _) (.int .i64 (j + 1))).other (p := ⟨w.heap.size, 0, none⟩) (Nat.succ_ne_self _) (.int .i64 3))
  replace hFF := (((hFF.setNew (p := ⟨w.heap.size, 5, none⟩) (Nat.le_refl _) (.int .u64 0)).setNew (p := ⟨w.heap.size, 1, none⟩) (Nat.le_refl _) (.int .i64 (j + 1))).setNew (p := ⟨w.heap.size, 0, none⟩) (Nat.le_refl _) (.int .i64 3))
  replace kX := hX.cell
  replace fX := hX.free
  replace kR := hR.cell
  replace fR := hR.free
  replace kH := HH.cellsC (c := s.c) rfl
  replace HH := HH.drew
  replace hX := hX.drew
  replace hR := hR.drew
  replace hFF := hFF.drew
  replace kX := hX.cell
  replace fX := hX.free
  replace kR := hR.cell
  replace fR := hR.free
  replace kH := HH.cellsC (c := s.c) rfl
  go_region_held3 (fun w' => w'.cell? ⟨w.heap.size, 1, none⟩ = some (.int .i64 (j + 1)) ∧ w'.cell? ⟨r, 0, none⟩ = some (.int .i64 s.c.cells) ∧ w'.cell? ⟨r, 1, none⟩ = some (.int .i64 s.c.muts) ∧ w'.cell? ⟨r, 2, none⟩ = some (.int .i64 s.c.regs) ∧ w'.cell? ⟨r, 3, none⟩ = some (.int .i64 s.c.globs)) (go_keep)
    (first | (go_at_call 72; refine (rRoots_any hrr _).mono ?_; rintro e w2 ⟨rfl, hF2⟩; (replace HH := HH.kept0 hF2); (replace hX := hX.kept hF2 (by simp)); (replace hR := hR.kept hF2 (by simp)); (replace hFF := hFF.trans (hF2.mono (by simp))); (replace kX := hX.cell); (replace fX := hX.free); (replace kR := hR.cell); (replace fR := hR.free); (replace kH := HH.cellsC (c := s.c) rfl)))
  go_wp2
  refine bodyPost_ret (v := .tuple #[.agg #[.int .i64 (3), .int .i64 ((j + 1)), .int .i64 c, .int .i64 m, .int .u64 a, .int .u64 (0), .bool (found), .int .i64 tail, .int .i64 cyc], .bool true]) (by simp [results, Try.results148, go_sem, kX, kR]) rfl ⟨rfl, ?_, ?_⟩
  · repeat (first | with_reducible exact HH | with_reducible refine RAt.other ?_ a1 a2 _ | with_reducible refine RAt.other ?_ b1 b2 _)
  · repeat (first | with_reducible exact hFF | with_reducible refine Fr.setNew ?_ (Nat.le_refl _) _ | with_reducible refine Fr.setNew ?_ (Nat.le_succ _) _)

set_option maxRecDepth 100000 in
set_option maxHeartbeats 4000000 in
theorem rrs2b {w : World} {r rd cap : Nat} {ext : List Value} {s : HS} (H : RAt w r rd cap ext s)  (j c m a p tail cyc : Int) (found : Bool) (hj : -1000000 ≤ j ∧ j ≤ 1000000) (hp0 : 0 ≤ p) (hp1 : p < 18446744073709551616) (hl : ¬ j + 1 < s.c.roots) :
    Calls Try.prog 148 #[.pointer (some ⟨r, 0, none⟩), .agg #[.int .i64 (2), .int .i64 j, .int .i64 c, .int .i64 m, .int .u64 a, .int .u64 p, .bool (found), .int .i64 tail, .int .i64 cyc]] w fun e w' => e = .returned (.tuple #[.agg #[.int .i64 (3), .int .i64 ((j + 1)), .int .i64 c, .int .i64 m, .int .u64 a, .int .u64 (0), .bool (found), .int .i64 tail, .int .i64 cyc], .bool true]) ∧ (RAt w' r rd cap ext (s.doIt (aCas (s.c.fieldP p 2) 0 1)) ∧ Fr [r, rd] w w') := by
  have n0 := H.blk.lt
  have n1 := H.ar.dat.lt
  have hXn : w.heap.size ∉ [r, rd] := by simp; omega
  have hRn : w.heap.size + 1 ∉ [r, rd] := by simp; omega
  replace HH := (H.alloc (.cells #[.int .i64 (2), .int .i64 j, .int .i64 c, .int .i64 m, .int .u64 a, .int .u64 p, .bool (found), .int .i64 tail, .int .i64 cyc] 86)).alloc (.cells #[.int .i64 0, .int .i64 0, .int .i64 0, .int .i64 0, .int .u64 0, .int .u64 0, .bool false, .int .i64 0, .int .i64 0] 86)
  replace hX := (Blk.new w [.int .i64 (2), .int .i64 j, .int .i64 c, .int .i64 m, .int .u64 a, .int .u64 p, .bool (found), .int .i64 tail, .int .i64 cyc] 86).alloc (.cells #[.int .i64 0, .int .i64 0, .int .i64 0, .int .i64 0, .int .u64 0, .int .u64 0, .bool false, .int .i64 0, .int .i64 0] 86)
  replace hR := Blk.new (w.alloc (.cells #[.int .i64 (2), .int .i64 j, .int .i64 c, .int .i64 m, .int .u64 a, .int .u64 p, .bool (found), .int .i64 tail, .int .i64 cyc] 86)) [.int .i64 0, .int .i64 0, .int .i64 0, .int .i64 0, .int .u64 0, .int .u64 0, .bool false, .int .i64 0, .int .i64 0] 86
  simp only [World.size_alloc] at hR
  replace hFF := ((Fr.refl [r, rd] w).alloc (.cells #[.int .i64 (2), .int .i64 j, .int .i64 c, .int .i64 m, .int .u64 a, .int .u64 p, .bool (found), .int .i64 tail, .int .i64 cyc] 86)).alloc (.cells #[.int .i64 0, .int .i64 0, .int .i64 0, .int .i64 0, .int .u64 0, .int .u64 0, .bool false, .int .i64 0, .int .i64 0] 86)
  have a1 : r ≠ w.heap.size := by omega
  have a2 : rd ≠ w.heap.size := by omega
  have b1 : r ≠ w.heap.size + 1 := by omega
  have b2 : rd ≠ w.heap.size + 1 := by omega
  have d1 : ¬ w.heap.size = r := by omega
  have d2 : ¬ w.heap.size = rd := by omega
  have d3 : ¬ w.heap.size + 1 = r := by omega
  have d4 : ¬ w.heap.size + 1 = rd := by omega
  have hjw : IntKind.i64.wrap (j + 1) = j + 1 := w64 _ (by omega)
  have hrr := H.right
  go_enter Try.func148, Try.ntmps148
  go_wp2_with (first | (go_at_call 145; refine (RAt.field HH _ _ (by omega) (by omega)).mono ?_; rintro e w2 ⟨rfl, hF2⟩; (replace HH := HH.kept0 hF2); (replace hX := hX.kept hF2 (by simp)); (replace hR := hR.kept hF2 (by simp)); (replace hFF := hFF.trans (hF2.mono (by simp))); (replace kX := hX.cell); (replace fX := hX.free); (replace kR := hR.cell); (replace fR := hR.free); (replace kH := HH.cellsC (c := s.c) rfl)) | (go_at_call 144; refine (rhcas_any HH _ _ _ (by omega) (by omega)).mono ?_; rintro e w2 ⟨rfl, HH, hF2⟩; (replace hX := hX.kept hF2 hXn); (replace hR := hR.kept hF2 hRn); (replace hFF := hFF.trans hF2); (replace kX := hX.cell); (replace fX := hX.free); (replace kR := hR.cell); (replace fR := hR.free); (replace kH := HH.cellsC (c := s.c) rfl)))
  replace hX := (((hX.set 5 (.int .u64 0)).set 1 (.int .i64 (j + 1))).set 0 (.int .i64 3))
  simp only [List.set_cons_zero, List.set_cons_succ] at hX
  replace HH := (((HH.other (p := ⟨w.heap.size, 5, none⟩) a1 a2 (.int .u64 0)).other (p := ⟨w.heap.size, 1, none⟩) a1 a2 (.int .i64 (j + 1))).other (p := ⟨w.heap.size, 0, none⟩) a1 a2 (.int .i64 3))
  replace hR := (((hR.other (p := ⟨w.heap.size, 5, none⟩) (Nat.succ_ne_self _) (.int .u64 0)).other (p := ⟨w.heap.size, 1, none⟩) (Nat.succ_ne_self _) (.int .i64 (j + 1))).other (p := ⟨w.heap.size, 0, none⟩) (Nat.succ_ne_self _) (.int .i64 3))
  replace hFF := (((hFF.setNew (p := ⟨w.heap.size, 5, none⟩) (Nat.le_refl _) (.int .u64 0)).setNew (p := ⟨w.heap.size, 1, none⟩) (Nat.le_refl _) (.int .i64 (j + 1))).setNew (p := ⟨w.heap.size, 0, none⟩) (Nat.le_refl _) (.int .i64 3))
  replace kX := hX.cell
  replace fX := hX.free
  replace kR := hR.cell
  replace fR := hR.free
  replace kH := HH.cellsC (c := s.c) rfl
  replace HH := HH.drew
  replace hX := hX.drew
  replace hR := hR.drew
  replace hFF := hFF.drew
  replace kX := hX.cell
  replace fX := hX.free
  replace kR := hR.cell
  replace fR := hR.free
  replace kH := HH.cellsC (c := s.c) rfl
  go_region_held3 (fun w' => w'.cell? ⟨w.heap.size, 1, none⟩ = some (.int .i64 (j + 1)) ∧ w'.cell? ⟨r, 0, none⟩ = some (.int .i64 s.c.cells) ∧ w'.cell? ⟨r, 1, none⟩ = some (.int .i64 s.c.muts) ∧ w'.cell? ⟨r, 2, none⟩ = some (.int .i64 s.c.regs) ∧ w'.cell? ⟨r, 3, none⟩ = some (.int .i64 s.c.globs)) (go_keep)
    (first | (go_at_call 72; refine (rRoots_any hrr _).mono ?_; rintro e w2 ⟨rfl, hF2⟩; (replace HH := HH.kept0 hF2); (replace hX := hX.kept hF2 (by simp)); (replace hR := hR.kept hF2 (by simp)); (replace hFF := hFF.trans (hF2.mono (by simp))); (replace kX := hX.cell); (replace fX := hX.free); (replace kR := hR.cell); (replace fR := hR.free); (replace kH := HH.cellsC (c := s.c) rfl)))
  go_wp2
  refine bodyPost_ret (v := .tuple #[.agg #[.int .i64 (3), .int .i64 ((j + 1)), .int .i64 c, .int .i64 m, .int .u64 a, .int .u64 (0), .bool (found), .int .i64 tail, .int .i64 cyc], .bool true]) (by simp [results, Try.results148, go_sem, kX, kR]) rfl ⟨rfl, ?_, ?_⟩
  · repeat (first | with_reducible exact HH | with_reducible refine RAt.other ?_ a1 a2 _ | with_reducible refine RAt.other ?_ b1 b2 _)
  · repeat (first | with_reducible exact hFF | with_reducible refine Fr.setNew ?_ (Nat.le_refl _) _ | with_reducible refine Fr.setNew ?_ (Nat.le_succ _) _)

set_option maxRecDepth 100000 in
set_option maxHeartbeats 4000000 in
theorem rrs1y {w : World} {r rd cap : Nat} {ext : List Value} {s : HS} (H : RAt w r rd cap ext s)  (j c m a p tail cyc : Int) (found : Bool) (hj : -1000000 ≤ j ∧ j ≤ 1000000) (hn : isCell (wAt s.ws (s.c.rootP j)) = true) :
    Calls Try.prog 148 #[.pointer (some ⟨r, 0, none⟩), .agg #[.int .i64 (1), .int .i64 j, .int .i64 c, .int .i64 m, .int .u64 a, .int .u64 p, .bool (found), .int .i64 tail, .int .i64 cyc]] w fun e w' => e = .returned (.tuple #[.agg #[.int .i64 (2), .int .i64 j, .int .i64 c, .int .i64 m, .int .u64 a, .int .u64 ((wAt s.ws (s.c.rootP j))), .bool (found), .int .i64 tail, .int .i64 cyc], .bool true]) ∧ (RAt w' r rd cap ext (s.doIt (aLoad (s.c.rootP j))) ∧ Fr [r, rd] w w') := by
  have n0 := H.blk.lt
  have n1 := H.ar.dat.lt
  have hXn : w.heap.size ∉ [r, rd] := by simp; omega
  have hRn : w.heap.size + 1 ∉ [r, rd] := by simp; omega
  replace HH := (H.alloc (.cells #[.int .i64 (1), .int .i64 j, .int .i64 c, .int .i64 m, .int .u64 a, .int .u64 p, .bool (found), .int .i64 tail, .int .i64 cyc] 86)).alloc (.cells #[.int .i64 0, .int .i64 0, .int .i64 0, .int .i64 0, .int .u64 0, .int .u64 0, .bool false, .int .i64 0, .int .i64 0] 86)
  replace hX := (Blk.new w [.int .i64 (1), .int .i64 j, .int .i64 c, .int .i64 m, .int .u64 a, .int .u64 p, .bool (found), .int .i64 tail, .int .i64 cyc] 86).alloc (.cells #[.int .i64 0, .int .i64 0, .int .i64 0, .int .i64 0, .int .u64 0, .int .u64 0, .bool false, .int .i64 0, .int .i64 0] 86)
  replace hR := Blk.new (w.alloc (.cells #[.int .i64 (1), .int .i64 j, .int .i64 c, .int .i64 m, .int .u64 a, .int .u64 p, .bool (found), .int .i64 tail, .int .i64 cyc] 86)) [.int .i64 0, .int .i64 0, .int .i64 0, .int .i64 0, .int .u64 0, .int .u64 0, .bool false, .int .i64 0, .int .i64 0] 86
  simp only [World.size_alloc] at hR
  replace hFF := ((Fr.refl [r, rd] w).alloc (.cells #[.int .i64 (1), .int .i64 j, .int .i64 c, .int .i64 m, .int .u64 a, .int .u64 p, .bool (found), .int .i64 tail, .int .i64 cyc] 86)).alloc (.cells #[.int .i64 0, .int .i64 0, .int .i64 0, .int .i64 0, .int .u64 0, .int .u64 0, .bool false, .int .i64 0, .int .i64 0] 86)
  have a1 : r ≠ w.heap.size := by omega
  have a2 : rd ≠ w.heap.size := by omega
  have b1 : r ≠ w.heap.size + 1 := by omega
  have b2 : rd ≠ w.heap.size + 1 := by omega
  have d1 : ¬ w.heap.size = r := by omega
  have d2 : ¬ w.heap.size = rd := by omega
  have d3 : ¬ w.heap.size + 1 = r := by omega
  have d4 : ¬ w.heap.size + 1 = rd := by omega
  have hb := H.ar.bd (s.c.rootP j)
  have hb0 := hb.1
  have hb1 := hb.2
  clear hb
  have hrr := H.right
  have hq : cellN (wAt s.ws (s.c.rootP j)) = (wAt s.ws (s.c.rootP j)) / 2 := cellN_yes hn
  have hq0 : 0 ≤ (wAt s.ws (s.c.rootP j)) / 2 := by omega
  have hci := fun W => by have := rIsCell_any (wAt s.ws (s.c.rootP j)) hb0 hb1 W; rw [hq] at this; exact this
  obtain ⟨q, hq2⟩ : ∃ q, q = (wAt s.ws (s.c.rootP j)) / 2 := ⟨_, rfl⟩
  rw [← hq2] at hci hq0
  have hci := fun W => hid (hci W)
  clear hq hq2
  go_enter Try.func148, Try.ntmps148
  go_wp2_with fail
  replace HH := HH.drew
  replace hX := hX.drew
  replace hR := hR.drew
  replace hFF := hFF.drew
  replace kX := hX.cell
  replace fX := hX.free
  replace kR := hR.cell
  replace fR := hR.free
  replace kH := HH.cellsC (c := s.c) rfl
  go_region_held3 (fun w' => w'.cell? ⟨w.heap.size, 1, none⟩ = some (.int .i64 j) ∧ w'.cell? ⟨r, 0, none⟩ = some (.int .i64 s.c.cells) ∧ w'.cell? ⟨r, 1, none⟩ = some (.int .i64 s.c.muts) ∧ w'.cell? ⟨r, 2, none⟩ = some (.int .i64 s.c.regs) ∧ w'.cell? ⟨r, 3, none⟩ = some (.int .i64 s.c.globs)) (go_keep)
    (first | (go_at_call 75; refine (rRoot_any HH.right _ (by omega) _).mono ?_; rintro e w2 ⟨rfl, hF2⟩; (replace HH := HH.kept0 hF2); (replace hX := hX.kept hF2 (by simp)); (replace hR := hR.kept hF2 (by simp)); (replace hFF := hFF.trans (hF2.mono (by simp))); (replace kX := hX.cell); (replace fX := hX.free); (replace kR := hR.cell); (replace fR := hR.free); (replace kH := HH.cellsC (c := s.c) rfl)) | (go_at_call 132; refine (rhload_any HH _).mono ?_; rintro e w2 ⟨rfl, HH, hF2⟩; (replace hX := hX.kept hF2 hXn); (replace hR := hR.kept hF2 hRn); (replace hFF := hFF.trans hF2); (replace kX := hX.cell); (replace fX := hX.free); (replace kR := hR.cell); (replace fR := hR.free); (replace kH := HH.cellsC (c := s.c) rfl)))
  go_wp2_with (first | (go_at_call 57; refine (hci _).out.mono ?_; rintro e w2 ⟨rfl, rfl⟩))
  refine bodyPost_ret (v := .tuple #[.agg #[.int .i64 (2), .int .i64 j, .int .i64 c, .int .i64 m, .int .u64 a, .int .u64 ((wAt s.ws (s.c.rootP j))), .bool (found), .int .i64 tail, .int .i64 cyc], .bool true]) (by simp [results, Try.results148, go_sem, kX, kR]) rfl ⟨rfl, ?_, ?_⟩
  · repeat (first | with_reducible exact HH | with_reducible refine RAt.other ?_ a1 a2 _ | with_reducible refine RAt.other ?_ b1 b2 _)
  · repeat (first | with_reducible exact hFF | with_reducible refine Fr.setNew ?_ (Nat.le_refl _) _ | with_reducible refine Fr.setNew ?_ (Nat.le_succ _) _)

set_option maxRecDepth 100000 in
set_option maxHeartbeats 4000000 in
theorem rrsno {w : World} {r rd cap : Nat} {ext : List Value} {s : HS} (H : RAt w r rd cap ext s)  (line j c m a p tail cyc : Int) (found : Bool) (k1 : ¬ line = 1) (k2 : ¬ line = 2) :
    Calls Try.prog 148 #[.pointer (some ⟨r, 0, none⟩), .agg #[.int .i64 line, .int .i64 j, .int .i64 c, .int .i64 m, .int .u64 a, .int .u64 p, .bool (found), .int .i64 tail, .int .i64 cyc]] w fun e w' => e = .returned (.tuple #[.agg #[.int .i64 line, .int .i64 j, .int .i64 c, .int .i64 m, .int .u64 a, .int .u64 p, .bool (found), .int .i64 tail, .int .i64 cyc], .bool false]) ∧ (RAt w' r rd cap ext (s) ∧ Fr [r, rd] w w') := by
  have n0 := H.blk.lt
  have n1 := H.ar.dat.lt
  have hXn : w.heap.size ∉ [r, rd] := by simp; omega
  have hRn : w.heap.size + 1 ∉ [r, rd] := by simp; omega
  replace HH := (H.alloc (.cells #[.int .i64 line, .int .i64 j, .int .i64 c, .int .i64 m, .int .u64 a, .int .u64 p, .bool (found), .int .i64 tail, .int .i64 cyc] 86)).alloc (.cells #[.int .i64 0, .int .i64 0, .int .i64 0, .int .i64 0, .int .u64 0, .int .u64 0, .bool false, .int .i64 0, .int .i64 0] 86)
  replace hX := (Blk.new w [.int .i64 line, .int .i64 j, .int .i64 c, .int .i64 m, .int .u64 a, .int .u64 p, .bool (found), .int .i64 tail, .int .i64 cyc] 86).alloc (.cells #[.int .i64 0, .int .i64 0, .int .i64 0, .int .i64 0, .int .u64 0, .int .u64 0, .bool false, .int .i64 0, .int .i64 0] 86)
  replace hR := Blk.new (w.alloc (.cells #[.int .i64 line, .int .i64 j, .int .i64 c, .int .i64 m, .int .u64 a, .int .u64 p, .bool (found), .int .i64 tail, .int .i64 cyc] 86)) [.int .i64 0, .int .i64 0, .int .i64 0, .int .i64 0, .int .u64 0, .int .u64 0, .bool false, .int .i64 0, .int .i64 0] 86
  simp only [World.size_alloc] at hR
  replace hFF := ((Fr.refl [r, rd] w).alloc (.cells #[.int .i64 line, .int .i64 j, .int .i64 c, .int .i64 m, .int .u64 a, .int .u64 p, .bool (found), .int .i64 tail, .int .i64 cyc] 86)).alloc (.cells #[.int .i64 0, .int .i64 0, .int .i64 0, .int .i64 0, .int .u64 0, .int .u64 0, .bool false, .int .i64 0, .int .i64 0] 86)
  have a1 : r ≠ w.heap.size := by omega
  have a2 : rd ≠ w.heap.size := by omega
  have b1 : r ≠ w.heap.size + 1 := by omega
  have b2 : rd ≠ w.heap.size + 1 := by omega
  have d1 : ¬ w.heap.size = r := by omega
  have d2 : ¬ w.heap.size = rd := by omega
  have d3 : ¬ w.heap.size + 1 = r := by omega
  have d4 : ¬ w.heap.size + 1 = rd := by omega
  have g1 : (line != 1) = true := bne_iff_ne.2 k1
  have g2 : (line != 2) = true := bne_iff_ne.2 k2
  go_enter Try.func148, Try.ntmps148
  go_wp2
  refine bodyPost_ret (v := .tuple #[.agg #[.int .i64 line, .int .i64 j, .int .i64 c, .int .i64 m, .int .u64 a, .int .u64 p, .bool (found), .int .i64 tail, .int .i64 cyc], .bool false]) (by simp [results, Try.results148, go_sem]) rfl ⟨rfl, ?_, ?_⟩
  · exact (H.alloc _).alloc _
  · exact ((Fr.refl _ _).alloc _).alloc _

end Go.Proofs.Yteggckdgjecfmaa
