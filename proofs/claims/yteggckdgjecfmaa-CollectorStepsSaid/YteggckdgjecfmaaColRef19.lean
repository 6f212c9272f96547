/- mudlarkref19.Step. -/
import Derived.Test.YteggckdgjecfmaaCol
import Derived.Test.YteggckdgjecfmaaHandMore
namespace Go.Proofs.Yteggckdgjecfmaa
open Go.RowKit
set_option linter.unusedVariables false
set_option linter.unusedSimpArgs false

set_option maxRecDepth 100000 in
set_option maxHeartbeats 4000000 in
theorem rcol_r {w : World} {r rd cap : Nat} {ext : List Value} {s : HS} (H : RAt w r rd cap ext s) (x : ColV) (hx : x.Wf) (hn : x.Near) (h1 : x.line ≤ 2) (h2 : True) :
    Calls Try.prog 88 #[.pointer (some ⟨r, 0, none⟩), x.val] w fun e w' => e = .returned (.tuple #[(rsM s.clear x).x.val, .int .i64 0]) ∧ RAt w' r rd cap ext (rsM s.clear x).s ∧ Fr [r, rd] w w' := by
  have HX := fun W (H : RAt W r rd cap ext s.clear) => rrs_any H x hx hn
  have H0 : RAt (((((w.setCell ⟨r, 5, none⟩ (.int .i64 0)).setCell ⟨r, 6, none⟩ (.int .i64 0)).setCell ⟨r, 7, none⟩ (.int .u64 0)).setCell ⟨r, 8, none⟩ (.int .u64 0)).setCell ⟨r, 9, none⟩ (.int .u64 0)) r rd cap ext s.clear := H.zero
  obtain ⟨res, hres⟩ : ∃ z, z = (rsM s.clear x) := ⟨_, rfl⟩
  rw [← hres] at HX ⊢
  clear hres hx hn
  obtain ⟨⟨line2, j2, c2, m2, a2, p2, found2, tail2, cyc2⟩, is2, s2⟩ := res
  obtain ⟨line, j, c, m, a, p, found, tail, cyc⟩ := x
  simp only at h1
  have g2 : decide (line ≤ 2) = true := by simpa using h1
  clear h1 h2
  simp only [ColV.val] at HX ⊢
  replace HX := hid HX
  have n0 := H.blk.lt
  have n1 := H.ar.dat.lt
  have kr := H.blk.cell
  have fr := H.blk.free
  have hX := (Blk.new (((((w.setCell ⟨r, 5, none⟩ (.int .i64 0)).setCell ⟨r, 6, none⟩ (.int .i64 0)).setCell ⟨r, 7, none⟩ (.int .u64 0)).setCell ⟨r, 8, none⟩ (.int .u64 0)).setCell ⟨r, 9, none⟩ (.int .u64 0)) [.int .i64 (line), .int .i64 (j), .int .i64 (c), .int .i64 (m), .int .u64 (a), .int .u64 (p), .bool (found), .int .i64 (tail), .int .i64 (cyc)] 86).alloc (.cells #[.int .i64 (0), .int .i64 (0), .int .i64 (0), .int .i64 (0), .int .u64 (0), .int .u64 (0), .bool (false), .int .i64 (0), .int .i64 (0)] 86)
  have hR := Blk.new (World.alloc (((((w.setCell ⟨r, 5, none⟩ (.int .i64 0)).setCell ⟨r, 6, none⟩ (.int .i64 0)).setCell ⟨r, 7, none⟩ (.int .u64 0)).setCell ⟨r, 8, none⟩ (.int .u64 0)).setCell ⟨r, 9, none⟩ (.int .u64 0)) (.cells #[.int .i64 (line), .int .i64 (j), .int .i64 (c), .int .i64 (m), .int .u64 (a), .int .u64 (p), .bool (found), .int .i64 (tail), .int .i64 (cyc)] 86)) zCol 86
  simp only [World.size_alloc, World.size_setCell, zCol] at hX hR
  have HH := (H0.alloc (.cells #[.int .i64 (line), .int .i64 (j), .int .i64 (c), .int .i64 (m), .int .u64 (a), .int .u64 (p), .bool (found), .int .i64 (tail), .int .i64 (cyc)] 86)).alloc (.cells #[.int .i64 (0), .int .i64 (0), .int .i64 (0), .int .i64 (0), .int .u64 (0), .int .u64 (0), .bool (false), .int .i64 (0), .int .i64 (0)] 86)
  have hFF := (((((((Fr.refl [r, rd] w).setCell (p := ⟨r, 5, none⟩) (by simp) (.int .i64 0)).setCell (p := ⟨r, 6, none⟩) (by simp) (.int .i64 0)).setCell (p := ⟨r, 7, none⟩) (by simp) (.int .u64 0)).setCell (p := ⟨r, 8, none⟩) (by simp) (.int .u64 0)).setCell (p := ⟨r, 9, none⟩) (by simp) (.int .u64 0)).alloc (.cells #[.int .i64 (line), .int .i64 (j), .int .i64 (c), .int .i64 (m), .int .u64 (a), .int .u64 (p), .bool (found), .int .i64 (tail), .int .i64 (cyc)] 86)).alloc (.cells #[.int .i64 (0), .int .i64 (0), .int .i64 (0), .int .i64 (0), .int .u64 (0), .int .u64 (0), .bool (false), .int .i64 (0), .int .i64 (0)] 86)
  have hXn : w.heap.size ∉ [r, rd] := by simp; omega
  have hRn : w.heap.size + 1 ∉ [r, rd] := by simp; omega
  have b1 : r ≠ w.heap.size + 1 := by omega
  have b2 : rd ≠ w.heap.size + 1 := by omega
  clear H H0
  go_enter Try.func88, Try.ntmps88
  go_wp2_with (first | (go_at_call 148; refine (HX.out _ HH).mono ?_; rintro e w2 ⟨rfl, HH, hF2⟩; (replace hX := hX.kept hF2 hXn); (replace hR := hR.kept hF2 hRn); (replace hFF := hFF.trans hF2); (have lR := hR.lt); (have hR2 := hR.alloc (.cells #[.int .i64 (line2), .int .i64 (j2), .int .i64 (c2), .int .i64 (m2), .int .u64 (a2), .int .u64 (p2), .bool (found2), .int .i64 (tail2), .int .i64 (cyc2)] 86)); (have kR := hR2.cell); (have fR := hR2.free); (have kR0 := hR.cell); (have fR0 := hR.free)))
  have hZ := (hR.set9 (.int .i64 (line2)) (.int .i64 (j2)) (.int .i64 (c2)) (.int .i64 (m2)) (.int .u64 (a2)) (.int .u64 (p2)) (.bool (found2)) (.int .i64 (tail2)) (.int .i64 (cyc2))).alloc (.cells #[.int .i64 (line2), .int .i64 (j2), .int .i64 (c2), .int .i64 (m2), .int .u64 (a2), .int .u64 (p2), .bool (found2), .int .i64 (tail2), .int .i64 (cyc2)] 86)
  have kZ := hZ.cell
  refine bodyPost_ret (v := .tuple #[.agg #[.int .i64 (line2), .int .i64 (j2), .int .i64 (c2), .int .i64 (m2), .int .u64 (a2), .int .u64 (p2), .bool (found2), .int .i64 (tail2), .int .i64 (cyc2)], .int .i64 0]) (by simp [results, Try.results88, go_sem, kZ]) rfl ⟨rfl, ?_, ?_⟩
  · repeat (first | with_reducible exact HH | with_reducible refine RAt.alloc ?_ _ | with_reducible refine RAt.other ?_ b1 b2 _)
  · repeat (first | with_reducible exact hFF | with_reducible refine Fr.alloc ?_ _ | with_reducible refine Fr.setNew ?_ (Nat.le_succ _) _)

set_option maxRecDepth 100000 in
set_option maxHeartbeats 4000000 in
theorem rcol_p {w : World} {r rd cap : Nat} {ext : List Value} {s : HS} (H : RAt w r rd cap ext s) (x : ColV) (hx : x.Wf) (hn : x.Near) (h1 : 2 < x.line) (h2 : x.line ≤ 9) :
    Calls Try.prog 88 #[.pointer (some ⟨r, 0, none⟩), x.val] w fun e w' => e = .returned (.tuple #[(passM s.clear x).x.val, .int .i64 0]) ∧ RAt w' r rd cap ext (passM s.clear x).s ∧ Fr [r, rd] w w' := by
  have HX := fun W (H : RAt W r rd cap ext s.clear) => rpa_any H x hx hn
  have H0 : RAt (((((w.setCell ⟨r, 5, none⟩ (.int .i64 0)).setCell ⟨r, 6, none⟩ (.int .i64 0)).setCell ⟨r, 7, none⟩ (.int .u64 0)).setCell ⟨r, 8, none⟩ (.int .u64 0)).setCell ⟨r, 9, none⟩ (.int .u64 0)) r rd cap ext s.clear := H.zero
  obtain ⟨res, hres⟩ : ∃ z, z = (passM s.clear x) := ⟨_, rfl⟩
  rw [← hres] at HX ⊢
  clear hres hx hn
  obtain ⟨⟨line2, j2, c2, m2, a2, p2, found2, tail2, cyc2⟩, is2, s2⟩ := res
  obtain ⟨line, j, c, m, a, p, found, tail, cyc⟩ := x
  simp only at h1
  simp only at h2
  have g2 : decide (line ≤ 2) = false := by simp; omega
  have g9 : decide (line ≤ 9) = true := by simpa using h2
  clear h1 h2
  simp only [ColV.val] at HX ⊢
  replace HX := hid HX
  have n0 := H.blk.lt
  have n1 := H.ar.dat.lt
  have kr := H.blk.cell
  have fr := H.blk.free
  have hX := (Blk.new (((((w.setCell ⟨r, 5, none⟩ (.int .i64 0)).setCell ⟨r, 6, none⟩ (.int .i64 0)).setCell ⟨r, 7, none⟩ (.int .u64 0)).setCell ⟨r, 8, none⟩ (.int .u64 0)).setCell ⟨r, 9, none⟩ (.int .u64 0)) [.int .i64 (line), .int .i64 (j), .int .i64 (c), .int .i64 (m), .int .u64 (a), .int .u64 (p), .bool (found), .int .i64 (tail), .int .i64 (cyc)] 86).alloc (.cells #[.int .i64 (0), .int .i64 (0), .int .i64 (0), .int .i64 (0), .int .u64 (0), .int .u64 (0), .bool (false), .int .i64 (0), .int .i64 (0)] 86)
  have hR := Blk.new (World.alloc (((((w.setCell ⟨r, 5, none⟩ (.int .i64 0)).setCell ⟨r, 6, none⟩ (.int .i64 0)).setCell ⟨r, 7, none⟩ (.int .u64 0)).setCell ⟨r, 8, none⟩ (.int .u64 0)).setCell ⟨r, 9, none⟩ (.int .u64 0)) (.cells #[.int .i64 (line), .int .i64 (j), .int .i64 (c), .int .i64 (m), .int .u64 (a), .int .u64 (p), .bool (found), .int .i64 (tail), .int .i64 (cyc)] 86)) zCol 86
  simp only [World.size_alloc, World.size_setCell, zCol] at hX hR
  have HH := (H0.alloc (.cells #[.int .i64 (line), .int .i64 (j), .int .i64 (c), .int .i64 (m), .int .u64 (a), .int .u64 (p), .bool (found), .int .i64 (tail), .int .i64 (cyc)] 86)).alloc (.cells #[.int .i64 (0), .int .i64 (0), .int .i64 (0), .int .i64 (0), .int .u64 (0), .int .u64 (0), .bool (false), .int .i64 (0), .int .i64 (0)] 86)
  have hFF := (((((((Fr.refl [r, rd] w).setCell (p := ⟨r, 5, none⟩) (by simp) (.int .i64 0)).setCell (p := ⟨r, 6, none⟩) (by simp) (.int .i64 0)).setCell (p := ⟨r, 7, none⟩) (by simp) (.int .u64 0)).setCell (p := ⟨r, 8, none⟩) (by simp) (.int .u64 0)).setCell (p := ⟨r, 9, none⟩) (by simp) (.int .u64 0)).alloc (.cells #[.int .i64 (line), .int .i64 (j), .int .i64 (c), .int .i64 (m), .int .u64 (a), .int .u64 (p), .bool (found), .int .i64 (tail), .int .i64 (cyc)] 86)).alloc (.cells #[.int .i64 (0), .int .i64 (0), .int .i64 (0), .int .i64 (0), .int .u64 (0), .int .u64 (0), .bool (false), .int .i64 (0), .int .i64 (0)] 86)
  have hXn : w.heap.size ∉ [r, rd] := by simp; omega
  have hRn : w.heap.size + 1 ∉ [r, rd] := by simp; omega
  have b1 : r ≠ w.heap.size + 1 := by omega
  have b2 : rd ≠ w.heap.size + 1 := by omega
  clear H H0
  go_enter Try.func88, Try.ntmps88
  go_wp2_with (first | (go_at_call 79; refine (HX.out _ HH).mono ?_; rintro e w2 ⟨rfl, HH, hF2⟩; (replace hX := hX.kept hF2 hXn); (replace hR := hR.kept hF2 hRn); (replace hFF := hFF.trans hF2); (have lR := hR.lt); (have hR2 := hR.alloc (.cells #[.int .i64 (line2), .int .i64 (j2), .int .i64 (c2), .int .i64 (m2), .int .u64 (a2), .int .u64 (p2), .bool (found2), .int .i64 (tail2), .int .i64 (cyc2)] 86)); (have kR := hR2.cell); (have fR := hR2.free); (have kR0 := hR.cell); (have fR0 := hR.free)))
  have hZ := (hR.set9 (.int .i64 (line2)) (.int .i64 (j2)) (.int .i64 (c2)) (.int .i64 (m2)) (.int .u64 (a2)) (.int .u64 (p2)) (.bool (found2)) (.int .i64 (tail2)) (.int .i64 (cyc2))).alloc (.cells #[.int .i64 (line2), .int .i64 (j2), .int .i64 (c2), .int .i64 (m2), .int .u64 (a2), .int .u64 (p2), .bool (found2), .int .i64 (tail2), .int .i64 (cyc2)] 86)
  have kZ := hZ.cell
  refine bodyPost_ret (v := .tuple #[.agg #[.int .i64 (line2), .int .i64 (j2), .int .i64 (c2), .int .i64 (m2), .int .u64 (a2), .int .u64 (p2), .bool (found2), .int .i64 (tail2), .int .i64 (cyc2)], .int .i64 0]) (by simp [results, Try.results88, go_sem, kZ]) rfl ⟨rfl, ?_, ?_⟩
  · repeat (first | with_reducible exact HH | with_reducible refine RAt.alloc ?_ _ | with_reducible refine RAt.other ?_ b1 b2 _)
  · repeat (first | with_reducible exact hFF | with_reducible refine Fr.alloc ?_ _ | with_reducible refine Fr.setNew ?_ (Nat.le_succ _) _)

set_option maxRecDepth 100000 in
set_option maxHeartbeats 4000000 in
theorem rcol_b {w : World} {r rd cap : Nat} {ext : List Value} {s : HS} (H : RAt w r rd cap ext s) (x : ColV) (hx : x.Wf) (hn : x.Near) (h1 : 9 < x.line) (h2 : x.line ≤ 16) :
    Calls Try.prog 88 #[.pointer (some ⟨r, 0, none⟩), x.val] w fun e w' => e = .returned (.tuple #[(barM s.clear x).x.val, .int .i64 (if (barM s.clear x).flip = true then 1 else 0)]) ∧ RAt w' r rd cap ext (barM s.clear x).s ∧ Fr [r, rd] w w' := by
  have HX := fun W (H : RAt W r rd cap ext s.clear) => rba_any H x hx hn
  have H0 : RAt (((((w.setCell ⟨r, 5, none⟩ (.int .i64 0)).setCell ⟨r, 6, none⟩ (.int .i64 0)).setCell ⟨r, 7, none⟩ (.int .u64 0)).setCell ⟨r, 8, none⟩ (.int .u64 0)).setCell ⟨r, 9, none⟩ (.int .u64 0)) r rd cap ext s.clear := H.zero
  obtain ⟨res, hres⟩ : ∃ z, z = (barM s.clear x) := ⟨_, rfl⟩
  rw [← hres] at HX ⊢
  clear hres hx hn
  obtain ⟨⟨line2, j2, c2, m2, a2, p2, found2, tail2, cyc2⟩, flip2, is2, s2⟩ := res
  obtain ⟨line, j, c, m, a, p, found, tail, cyc⟩ := x
  simp only at h1
  simp only at h2
  have g2 : decide (line ≤ 2) = false := by simp; omega
  have g9 : decide (line ≤ 9) = false := by simp; omega
  have g16 : decide (line ≤ 16) = true := by simpa using h2
  clear h1 h2
  simp only [ColV.val] at HX ⊢
  replace HX := hid HX
  have n0 := H.blk.lt
  have n1 := H.ar.dat.lt
  have kr := H.blk.cell
  have fr := H.blk.free
  have hX := (Blk.new (((((w.setCell ⟨r, 5, none⟩ (.int .i64 0)).setCell ⟨r, 6, none⟩ (.int .i64 0)).setCell ⟨r, 7, none⟩ (.int .u64 0)).setCell ⟨r, 8, none⟩ (.int .u64 0)).setCell ⟨r, 9, none⟩ (.int .u64 0)) [.int .i64 (line), .int .i64 (j), .int .i64 (c), .int .i64 (m), .int .u64 (a), .int .u64 (p), .bool (found), .int .i64 (tail), .int .i64 (cyc)] 86).alloc (.cells #[.int .i64 (0), .int .i64 (0), .int .i64 (0), .int .i64 (0), .int .u64 (0), .int .u64 (0), .bool (false), .int .i64 (0), .int .i64 (0)] 86)
  have hR := Blk.new (World.alloc (((((w.setCell ⟨r, 5, none⟩ (.int .i64 0)).setCell ⟨r, 6, none⟩ (.int .i64 0)).setCell ⟨r, 7, none⟩ (.int .u64 0)).setCell ⟨r, 8, none⟩ (.int .u64 0)).setCell ⟨r, 9, none⟩ (.int .u64 0)) (.cells #[.int .i64 (line), .int .i64 (j), .int .i64 (c), .int .i64 (m), .int .u64 (a), .int .u64 (p), .bool (found), .int .i64 (tail), .int .i64 (cyc)] 86)) zCol 86
  simp only [World.size_alloc, World.size_setCell, zCol] at hX hR
  have HH := (H0.alloc (.cells #[.int .i64 (line), .int .i64 (j), .int .i64 (c), .int .i64 (m), .int .u64 (a), .int .u64 (p), .bool (found), .int .i64 (tail), .int .i64 (cyc)] 86)).alloc (.cells #[.int .i64 (0), .int .i64 (0), .int .i64 (0), .int .i64 (0), .int .u64 (0), .int .u64 (0), .bool (false), .int .i64 (0), .int .i64 (0)] 86)
  have hFF := (((((((Fr.refl [r, rd] w).setCell (p := ⟨r, 5, none⟩) (by simp) (.int .i64 0)).setCell (p := ⟨r, 6, none⟩) (by simp) (.int .i64 0)).setCell (p := ⟨r, 7, none⟩) (by simp) (.int .u64 0)).setCell (p := ⟨r, 8, none⟩) (by simp) (.int .u64 0)).setCell (p := ⟨r, 9, none⟩) (by simp) (.int .u64 0)).alloc (.cells #[.int .i64 (line), .int .i64 (j), .int .i64 (c), .int .i64 (m), .int .u64 (a), .int .u64 (p), .bool (found), .int .i64 (tail), .int .i64 (cyc)] 86)).alloc (.cells #[.int .i64 (0), .int .i64 (0), .int .i64 (0), .int .i64 (0), .int .u64 (0), .int .u64 (0), .bool (false), .int .i64 (0), .int .i64 (0)] 86)
  have hXn : w.heap.size ∉ [r, rd] := by simp; omega
  have hRn : w.heap.size + 1 ∉ [r, rd] := by simp; omega
  have b1 : r ≠ w.heap.size + 1 := by omega
  have b2 : rd ≠ w.heap.size + 1 := by omega
  clear H H0
  cases flip2
  · simp only [Bool.false_eq_true, if_false]
    go_enter Try.func88, Try.ntmps88
    go_wp2_with (first | (go_at_call 70; refine (HX.out _ HH).mono ?_; rintro e w2 ⟨rfl, HH, hF2⟩; (replace hX := hX.kept hF2 hXn); (replace hR := hR.kept hF2 hRn); (replace hFF := hFF.trans hF2); (have lR := hR.lt); (have hR2 := hR.alloc (.cells #[.int .i64 (line2), .int .i64 (j2), .int .i64 (c2), .int .i64 (m2), .int .u64 (a2), .int .u64 (p2), .bool (found2), .int .i64 (tail2), .int .i64 (cyc2)] 86)); (have kR := hR2.cell); (have fR := hR2.free); (have kR0 := hR.cell); (have fR0 := hR.free)))
    have hZ := (hR.set9 (.int .i64 (line2)) (.int .i64 (j2)) (.int .i64 (c2)) (.int .i64 (m2)) (.int .u64 (a2)) (.int .u64 (p2)) (.bool (found2)) (.int .i64 (tail2)) (.int .i64 (cyc2))).alloc (.cells #[.int .i64 (line2), .int .i64 (j2), .int .i64 (c2), .int .i64 (m2), .int .u64 (a2), .int .u64 (p2), .bool (found2), .int .i64 (tail2), .int .i64 (cyc2)] 86)
    have kZ := hZ.cell
    refine bodyPost_ret (v := .tuple #[.agg #[.int .i64 (line2), .int .i64 (j2), .int .i64 (c2), .int .i64 (m2), .int .u64 (a2), .int .u64 (p2), .bool (found2), .int .i64 (tail2), .int .i64 (cyc2)], .int .i64 0]) (by simp [results, Try.results88, go_sem, kZ]) rfl ⟨rfl, ?_, ?_⟩
    · repeat (first | with_reducible exact HH | with_reducible refine RAt.alloc ?_ _ | with_reducible refine RAt.other ?_ b1 b2 _)
    · repeat (first | with_reducible exact hFF | with_reducible refine Fr.alloc ?_ _ | with_reducible refine Fr.setNew ?_ (Nat.le_succ _) _)
  · simp only [if_true]
    go_enter Try.func88, Try.ntmps88
    go_wp2_with (first | (go_at_call 70; refine (HX.out _ HH).mono ?_; rintro e w2 ⟨rfl, HH, hF2⟩; (replace hX := hX.kept hF2 hXn); (replace hR := hR.kept hF2 hRn); (replace hFF := hFF.trans hF2); (have lR := hR.lt); (have hR2 := hR.alloc (.cells #[.int .i64 (line2), .int .i64 (j2), .int .i64 (c2), .int .i64 (m2), .int .u64 (a2), .int .u64 (p2), .bool (found2), .int .i64 (tail2), .int .i64 (cyc2)] 86)); (have kR := hR2.cell); (have fR := hR2.free); (have kR0 := hR.cell); (have fR0 := hR.free)))
    have hZ := (hR.set9 (.int .i64 (line2)) (.int .i64 (j2)) (.int .i64 (c2)) (.int .i64 (m2)) (.int .u64 (a2)) (.int .u64 (p2)) (.bool (found2)) (.int .i64 (tail2)) (.int .i64 (cyc2))).alloc (.cells #[.int .i64 (line2), .int .i64 (j2), .int .i64 (c2), .int .i64 (m2), .int .u64 (a2), .int .u64 (p2), .bool (found2), .int .i64 (tail2), .int .i64 (cyc2)] 86)
    have kZ := hZ.cell
    refine bodyPost_ret (v := .tuple #[.agg #[.int .i64 (line2), .int .i64 (j2), .int .i64 (c2), .int .i64 (m2), .int .u64 (a2), .int .u64 (p2), .bool (found2), .int .i64 (tail2), .int .i64 (cyc2)], .int .i64 1]) (by simp [results, Try.results88, go_sem, kZ]) rfl ⟨rfl, ?_, ?_⟩
    · repeat (first | with_reducible exact HH | with_reducible refine RAt.alloc ?_ _ | with_reducible refine RAt.other ?_ b1 b2 _)
    · repeat (first | with_reducible exact hFF | with_reducible refine Fr.alloc ?_ _ | with_reducible refine Fr.setNew ?_ (Nat.le_succ _) _)

set_option maxRecDepth 100000 in
set_option maxHeartbeats 4000000 in
theorem rcol_s {w : World} {r rd cap : Nat} {ext : List Value} {s : HS} (H : RAt w r rd cap ext s) (x : ColV) (hx : x.Wf) (hn : x.Near) (h1 : 16 < x.line) (h2 : True) :
    Calls Try.prog 88 #[.pointer (some ⟨r, 0, none⟩), x.val] w fun e w' => e = .returned (.tuple #[(swM s.clear x).x.val, .int .i64 (swM s.clear x).what]) ∧ RAt w' r rd cap ext (swM s.clear x).s ∧ Fr [r, rd] w w' := by
  have HX := fun W (H : RAt W r rd cap ext s.clear) => rsw_any H x hx hn
  have H0 : RAt (((((w.setCell ⟨r, 5, none⟩ (.int .i64 0)).setCell ⟨r, 6, none⟩ (.int .i64 0)).setCell ⟨r, 7, none⟩ (.int .u64 0)).setCell ⟨r, 8, none⟩ (.int .u64 0)).setCell ⟨r, 9, none⟩ (.int .u64 0)) r rd cap ext s.clear := H.zero
  obtain ⟨res, hres⟩ : ∃ z, z = (swM s.clear x) := ⟨_, rfl⟩
  rw [← hres] at HX ⊢
  clear hres hx hn
  obtain ⟨⟨line2, j2, c2, m2, a2, p2, found2, tail2, cyc2⟩, what2, is2, s2⟩ := res
  obtain ⟨line, j, c, m, a, p, found, tail, cyc⟩ := x
  simp only at h1
  have g2 : decide (line ≤ 2) = false := by simp; omega
  have g9 : decide (line ≤ 9) = false := by simp; omega
  have g16 : decide (line ≤ 16) = false := by simp; omega
  clear h1 h2
  simp only [ColV.val] at HX ⊢
  replace HX := hid HX
  have n0 := H.blk.lt
  have n1 := H.ar.dat.lt
  have kr := H.blk.cell
  have fr := H.blk.free
  have hX := (Blk.new (((((w.setCell ⟨r, 5, none⟩ (.int .i64 0)).setCell ⟨r, 6, none⟩ (.int .i64 0)).setCell ⟨r, 7, none⟩ (.int .u64 0)).setCell ⟨r, 8, none⟩ (.int .u64 0)).setCell ⟨r, 9, none⟩ (.int .u64 0)) [.int .i64 (line), .int .i64 (j), .int .i64 (c), .int .i64 (m), .int .u64 (a), .int .u64 (p), .bool (found), .int .i64 (tail), .int .i64 (cyc)] 86).alloc (.cells #[.int .i64 (0), .int .i64 (0), .int .i64 (0), .int .i64 (0), .int .u64 (0), .int .u64 (0), .bool (false), .int .i64 (0), .int .i64 (0)] 86)
  have hR := Blk.new (World.alloc (((((w.setCell ⟨r, 5, none⟩ (.int .i64 0)).setCell ⟨r, 6, none⟩ (.int .i64 0)).setCell ⟨r, 7, none⟩ (.int .u64 0)).setCell ⟨r, 8, none⟩ (.int .u64 0)).setCell ⟨r, 9, none⟩ (.int .u64 0)) (.cells #[.int .i64 (line), .int .i64 (j), .int .i64 (c), .int .i64 (m), .int .u64 (a), .int .u64 (p), .bool (found), .int .i64 (tail), .int .i64 (cyc)] 86)) zCol 86
  simp only [World.size_alloc, World.size_setCell, zCol] at hX hR
  have HH := (H0.alloc (.cells #[.int .i64 (line), .int .i64 (j), .int .i64 (c), .int .i64 (m), .int .u64 (a), .int .u64 (p), .bool (found), .int .i64 (tail), .int .i64 (cyc)] 86)).alloc (.cells #[.int .i64 (0), .int .i64 (0), .int .i64 (0), .int .i64 (0), .int .u64 (0), .int .u64 (0), .bool (false), .int .i64 (0), .int .i64 (0)] 86)
  have hFF := (((((((Fr.refl [r, rd] w).setCell (p := ⟨r, 5, none⟩) (by simp) (.int .i64 0)).setCell (p := ⟨r, 6, none⟩) (by simp) (.int .i64 0)).setCell (p := ⟨r, 7, none⟩) (by simp) (.int .u64 0)).setCell (p := ⟨r, 8, none⟩) (by simp) (.int .u64 0)).setCell (p := ⟨r, 9, none⟩) (by simp) (.int .u64 0)).alloc (.cells #[.int .i64 (line), .int .i64 (j), .int .i64 (c), .int .i64 (m), .int .u64 (a), .int .u64 (p), .bool (found), .int .i64 (tail), .int .i64 (cyc)] 86)).alloc (.cells #[.int .i64 (0), .int .i64 (0), .int .i64 (0), .int .i64 (0), .int .u64 (0), .int .u64 (0), .bool (false), .int .i64 (0), .int .i64 (0)] 86)
  have hXn : w.heap.size ∉ [r, rd] := by simp; omega
  have hRn : w.heap.size + 1 ∉ [r, rd] := by simp; omega
  have b1 : r ≠ w.heap.size + 1 := by omega
  have b2 : rd ≠ w.heap.size + 1 := by omega
  clear H H0
  go_enter Try.func88, Try.ntmps88
  go_wp2_with (first | (go_at_call 65; refine (HX.out _ HH).mono ?_; rintro e w2 ⟨rfl, HH, hF2⟩; (replace hX := hX.kept hF2 hXn); (replace hR := hR.kept hF2 hRn); (replace hFF := hFF.trans hF2); (have lR := hR.lt); (have hR2 := hR.alloc (.cells #[.int .i64 (line2), .int .i64 (j2), .int .i64 (c2), .int .i64 (m2), .int .u64 (a2), .int .u64 (p2), .bool (found2), .int .i64 (tail2), .int .i64 (cyc2)] 86)); (have kR := hR2.cell); (have fR := hR2.free); (have kR0 := hR.cell); (have fR0 := hR.free)))
  have hZ := (hR.set9 (.int .i64 (line2)) (.int .i64 (j2)) (.int .i64 (c2)) (.int .i64 (m2)) (.int .u64 (a2)) (.int .u64 (p2)) (.bool (found2)) (.int .i64 (tail2)) (.int .i64 (cyc2))).alloc (.cells #[.int .i64 (line2), .int .i64 (j2), .int .i64 (c2), .int .i64 (m2), .int .u64 (a2), .int .u64 (p2), .bool (found2), .int .i64 (tail2), .int .i64 (cyc2)] 86)
  have kZ := hZ.cell
  refine bodyPost_ret (v := .tuple #[.agg #[.int .i64 (line2), .int .i64 (j2), .int .i64 (c2), .int .i64 (m2), .int .u64 (a2), .int .u64 (p2), .bool (found2), .int .i64 (tail2), .int .i64 (cyc2)], .int .i64 what2]) (by simp [results, Try.results88, go_sem, kZ]) rfl ⟨rfl, ?_, ?_⟩
  · repeat (first | with_reducible exact HH | with_reducible refine RAt.alloc ?_ _ | with_reducible refine RAt.other ?_ b1 b2 _)
  · repeat (first | with_reducible exact hFF | with_reducible refine Fr.alloc ?_ _ | with_reducible refine Fr.setNew ?_ (Nat.le_succ _) _)

theorem rsM_is {s : HS} {x : ColV} : (rsM s x).is = (decide (x.line = 1) || decide (x.line = 2)) := by
  unfold rsM
  by_cases h1 : x.line = 1
  · simp only [h1, if_true]; split <;> simp
  · by_cases h2 : x.line = 2 <;> simp [h1, h2]
theorem passM_is {s : HS} {x : ColV} : (passM s x).is = (decide (3 ≤ x.line) && decide (x.line ≤ 9)) := by
  unfold passM
  by_cases h : 3 ≤ x.line ∧ x.line ≤ 9
  · have : x.line = 3 ∨ x.line = 4 ∨ x.line = 5 ∨ x.line = 6 ∨ x.line = 7 ∨ x.line = 8 ∨ x.line = 9 := by omega
    rcases this with e | e | e | e | e | e | e <;> simp [e]
  · rw [if_neg (by omega), if_neg (by omega), if_neg (by omega), if_neg (by omega), if_neg (by omega), if_neg (by omega), if_neg (by omega)]
    simp; omega
theorem barM_is {s : HS} {x : ColV} : (barM s x).is = (decide (10 ≤ x.line) && decide (x.line ≤ 16)) := by
  unfold barM
  by_cases h : 10 ≤ x.line ∧ x.line ≤ 16
  · have : x.line = 10 ∨ x.line = 11 ∨ x.line = 12 ∨ x.line = 13 ∨ x.line = 14 ∨ x.line = 15 ∨ x.line = 16 := by omega
    rcases this with e | e | e | e | e | e | e <;> simp only [e, if_true] <;> (repeat' split) <;> simp_all
  · rw [if_neg (by omega), if_neg (by omega), if_neg (by omega), if_neg (by omega), if_neg (by omega), if_neg (by omega), if_neg (by omega)]
    simp; omega
theorem rcol_any {w : World} {r rd cap : Nat} {ext : List Value} {s : HS} (H : RAt w r rd cap ext s) (x : ColV) (hx : x.Wf) (hn : x.Near) :
    Calls Try.prog 88 #[.pointer (some ⟨r, 0, none⟩), x.val] w fun e w' => e = .returned (.tuple #[(colM s x).x.val, .int .i64 (colM s x).what]) ∧ RAt w' r rd cap ext (colM s x).s ∧ Fr [r, rd] w w' := by
  unfold colM colStep
  by_cases h2 : x.line ≤ 2
  · have := rcol_r H x hx hn h2 trivial
    by_cases i0 : (rsM s.clear x).is = true
    · rw [if_pos i0]; exact this
    · have i1 : ¬ (passM s.clear x).is = true := by rw [passM_is]; simp; omega
      have i2 : ¬ (barM s.clear x).is = true := by rw [barM_is]; simp; omega
      have i3 : ¬ (swM s.clear x).is = true := by
        unfold swM
        rw [if_neg (by omega), if_neg (by omega), if_neg (by omega), if_neg (by omega), if_neg (by omega)]
        simp
      rw [if_neg i0, if_neg i1, if_neg i2, if_neg i3]
      rw [rsM_no (by simpa using i0)] at this
      exact this
  have i0 : ¬ (rsM s.clear x).is = true := by rw [rsM_is]; simp; omega
  rw [if_neg i0]
  by_cases h9 : x.line ≤ 9
  · have i1 : (passM s.clear x).is = true := by rw [passM_is]; simp; omega
    rw [if_pos i1]
    exact rcol_p H x hx hn (by omega) h9
  have i1 : ¬ (passM s.clear x).is = true := by rw [passM_is]; simp; omega
  rw [if_neg i1]
  by_cases h16 : x.line ≤ 16
  · have i2 : (barM s.clear x).is = true := by rw [barM_is]; simp; omega
    rw [if_pos i2]
    exact rcol_b H x hx hn (by omega) h16
  have i2 : ¬ (barM s.clear x).is = true := by rw [barM_is]; simp; omega
  rw [if_neg i2]
  have := rcol_s H x hx hn (by omega) trivial
  by_cases i3 : (swM s.clear x).is = true
  · rw [if_pos i3]; exact this
  · rw [if_neg i3]
    rw [swM_no (by simpa using i3)] at this
    exact this

end Go.Proofs.Yteggckdgjecfmaa
