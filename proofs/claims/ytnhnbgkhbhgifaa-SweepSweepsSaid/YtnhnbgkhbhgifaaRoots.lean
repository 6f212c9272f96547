/- roots.Step line by line. -/
import Derived.Test.YtnhnbgkhbhgifaaPlain
import Derived.Test.YtnhnbgkhbhgifaaRoot
import Derived.Test.YtnhnbgkhbhgifaaColV
import Derived.Deep.CutRange
namespace Go.Proofs.Ytnhnbgkhbhgifaa
open Go.RowKit
set_option linter.unusedVariables false
set_option linter.unusedSimpArgs false


theorem HAt.cellsC {w : World} {h ab db : Nat} {s : HS} (H : HAt w h ab db s) {c : Cfg} (e : s.c = c) : ∀ i, w.cell? ⟨h, i, none⟩ = (hcs ab c s.acc)[i]? := by
  subst e
  exact H.blk.cell
theorem roots_yes {c : Cfg} (hR : c.Right) (w : World) : Calls Try.prog 171 #[c.val] w fun e w' => e = .returned (.int .i64 c.roots) ∧ Fr [] w w' := by
  have := roots_any c w true hR.right
  simpa using this

set_option maxRecDepth 100000 in
set_option maxHeartbeats 4000000 in
theorem rs1na {w : World} {h ab db : Nat} {s : HS} (H : HAt w h ab db s)  (j c m a p tail cyc : Int) (found : Bool) (hj : -1000000 ≤ j ∧ j ≤ 1000000) (hn : isCell (wAt s.ws (s.c.rootP j)) = false) (hl : j + 1 < s.c.roots) :
    Calls Try.prog 152 #[.pointer (some ⟨h, 0, none⟩), .agg #[.int .i64 (1), .int .i64 j, .int .i64 c, .int .i64 m, .int .u64 a, .int .u64 p, .bool (found), .int .i64 tail, .int .i64 cyc]] w fun e w' => e = .returned (.tuple #[.agg #[.int .i64 (1), .int .i64 ((j + 1)), .int .i64 c, .int .i64 m, .int .u64 a, .int .u64 (0), .bool (found), .int .i64 tail, .int .i64 cyc], .bool true]) ∧ (HAt w' h ab db (s.doIt (aLoad (s.c.rootP j))) ∧ Fr [h, db] w w') := by
  have n0 := H.blk.lt
  have n1 := H.ar.dat.lt
  have n2 := H.ar.hdr.lt
  have hXn : w.heap.size ∉ [h, db] := by simp; omega
  have hRn : w.heap.size + 1 ∉ [h, db] := by simp; omega
  replace HH := (H.alloc (.cells #[.int .i64 (1), .int .i64 j, .int .i64 c, .int .i64 m, .int .u64 a, .int .u64 p, .bool (found), .int .i64 tail, .int .i64 cyc] 67)).alloc (.cells #[.int .i64 0, .int .i64 0, .int .i64 0, .int .i64 0, .int .u64 0, .int .u64 0, .bool false, .int .i64 0, .int .i64 0] 67)
  replace hX := (Blk.new w [.int .i64 (1), .int .i64 j, .int .i64 c, .int .i64 m, .int .u64 a, .int .u64 p, .bool (found), .int .i64 tail, .int .i64 cyc] 67).alloc (.cells #[.int .i64 0, .int .i64 0, .int .i64 0, .int .i64 0, .int .u64 0, .int .u64 0, .bool false, .int .i64 0, .int .i64 0] 67)
  replace hR := Blk.new (w.alloc (.cells #[.int .i64 (1), .int .i64 j, .int .i64 c, .int .i64 m, .int .u64 a, .int .u64 p, .bool (found), .int .i64 tail, .int .i64 cyc] 67)) [.int .i64 0, .int .i64 0, .int .i64 0, .int .i64 0, .int .u64 0, .int .u64 0, .bool false, .int .i64 0, .int .i64 0] 67
  simp only [World.size_alloc] at hR
  replace hFF := ((Fr.refl [h, db] w).alloc (.cells #[.int .i64 (1), .int .i64 j, .int .i64 c, .int .i64 m, .int .u64 a, .int .u64 p, .bool (found), .int .i64 tail, .int .i64 cyc] 67)).alloc (.cells #[.int .i64 0, .int .i64 0, .int .i64 0, .int .i64 0, .int .u64 0, .int .u64 0, .bool false, .int .i64 0, .int .i64 0] 67)
  have a1 : h ≠ w.heap.size := by omega
  have a2 : db ≠ w.heap.size := by omega
  have a3 : ab ≠ w.heap.size := by omega
  have b1 : h ≠ w.heap.size + 1 := by omega
  have b2 : db ≠ w.heap.size + 1 := by omega
  have b3 : ab ≠ w.heap.size + 1 := by omega
  have d1 : ¬ w.heap.size = h := by omega
  have d2 : ¬ w.heap.size = db := by omega
  have d3 : ¬ w.heap.size + 1 = h := by omega
  have d4 : ¬ w.heap.size + 1 = db := by omega
  have hjw : IntKind.i64.wrap (j + 1) = j + 1 := w64 _ (by omega)
  have hrr := H.right
  have hb := H.ar.bd (s.c.rootP j)
  have hb0 := hb.1
  have hb1 := hb.2
  clear hb
  go_enter Try.func152, Try.ntmps152
  go_upto_region 6 with fail
  go_cut [] from 16 to 25 (fun wx => ∃ w2, wx = w2.setCell ⟨w.heap.size, 5, none⟩ (.int .u64 (wAt s.ws (s.c.rootP j))) ∧ HAt w2 h ab db (s.doIt (aLoad (s.c.rootP j))) ∧ Blk w2 w.heap.size 67 [.int .i64 (1), .int .i64 j, .int .i64 c, .int .i64 m, .int .u64 a, .int .u64 p, .bool (found), .int .i64 tail, .int .i64 cyc] ∧ Blk w2 (w.heap.size + 1) 67 [.int .i64 0, .int .i64 0, .int .i64 0, .int .i64 0, .int .u64 0, .int .u64 0, .bool false, .int .i64 0, .int .i64 0] ∧ Fr [h, db] w w2)
  case first =>
    replace HH := HH.drew
    replace hX := hX.drew
    replace hR := hR.drew
    replace hFF := hFF.drew
    replace kX := hX.cell
    replace fX := hX.free
    replace kR := hR.cell
    replace fR := hR.free
    replace kH := HH.cellsC (c := s.c) rfl
    go_region_with (first | (go_at_call 117; refine (root_any HH.right _ (by omega) _).mono ?_; rintro e w2 ⟨rfl, hF2⟩; (replace HH := HH.kept0 hF2); (replace hX := hX.kept hF2 (by simp)); (replace hR := hR.kept hF2 (by simp)); (replace hFF := hFF.trans (hF2.mono (by simp))); (replace kX := hX.cell); (replace fX := hX.free); (replace kR := hR.cell); (replace fR := hR.free); (replace kH := HH.cellsC (c := s.c) rfl)) | (go_at_call 101; refine (hload_any HH _).mono ?_; rintro e w2 ⟨rfl, HH, hF2⟩; (replace hX := hX.kept hF2 hXn); (replace hR := hR.kept hF2 hRn); (replace hFF := hFF.trans hF2); (replace kX := hX.cell); (replace fX := hX.free); (replace kR := hR.cell); (replace fR := hR.free); (replace kH := HH.cellsC (c := s.c) rfl)))
    all_goals (go_wp2_with fail; go_meet; exact ⟨_, rfl, HH, hX, hR, hFF⟩)
  case rest =>
    obtain ⟨w2, rfl, HH, hX, hR, hFF⟩ := hcut
    replace kX := hX.cell
    replace fX := hX.free
    replace kR := hR.cell
    replace fR := hR.free
    replace kH := HH.cellsC (c := s.c) rfl
    go_wp2_with (first | (go_at_call 114; refine (isCell_any _ (by omega) (by omega) _).mono ?_; rintro e w2 ⟨rfl, rfl⟩))
    replace hX := ((((hX.set 5 (.int .u64 (wAt s.ws (s.c.rootP j)))).set 5 (.int .u64 0)).set 0 (.int .i64 1)).set 1 (.int .i64 (j + 1)))
    simp only [List.set_cons_zero, List.set_cons_succ] at hX
    replace HH := ((((HH.other (p := ⟨w.heap.size, 5, none⟩) a1 a3 a2 (.int .u64 (wAt s.ws (s.c.rootP j)))).other (p := ⟨w.heap.size, 5, none⟩) a1 a3 a2 (.int .u64 0)).other (p := ⟨w.heap.size, 0, none⟩) a1 a3 a2 (.int .i64 1)).other (p := ⟨w.heap.size, 1, none⟩) a1 a3 a2 (.int .i64 (j + 1)))
    replace hR := ((((hR.other (p := ⟨w.heap.size, 5, none⟩) (Nat.succ_ne_self _) (.int .u64 (wAt s.ws (s.c.rootP j)))).other (p := ⟨w.heap.size, 5, none⟩) (Nat.succ_ne_self _) (.int .u64 0)).other (p := ⟨w.heap.size, 0, none⟩) (Nat.succ_ne_self _) (.int .i64 1)).other (p := ⟨w.heap.size, 1, none⟩) (Nat.succ_ne_self _) (.int .i64 (j + 1)))
    replace hFF := ((((hFF.setNew (p := ⟨w.heap.size, 5, none⟩) (Nat.le_refl _) (.int .u64 (wAt s.ws (s.c.rootP j)))).setNew (p := ⟨w.heap.size, 5, none⟩) (Nat.le_refl _) (.int .u64 0)).setNew (p := ⟨w.heap.size, 0, none⟩) (Nat.le_refl _) (.int .i64 1)).setNew (p := ⟨w.heap.size, 1, none⟩) (Nat.le_refl _) (.int .i64 (j + 1)))
    replace kX := hX.cell
    replace fX := hX.free
    replace kR := hR.cell
    replace fR := hR.free
    replace kH := HH.cellsC (c := s.c) rfl
    replace HH := HH.drew
    replace hX := hX.drew
    replace hR := hR.drew
    replace hFF := hFF.drew
    replace kX := hX.cell
    replace fX := hX.free
    replace kR := hR.cell
    replace fR := hR.free
    replace kH := HH.cellsC (c := s.c) rfl
    go_region_held3 (fun w' => w'.cell? ⟨w.heap.size, 1, none⟩ = some (.int .i64 (j + 1)) ∧ w'.cell? ⟨h, 1, none⟩ = some (.int .i64 s.c.cells) ∧ w'.cell? ⟨h, 2, none⟩ = some (.int .i64 s.c.muts) ∧ w'.cell? ⟨h, 3, none⟩ = some (.int .i64 s.c.regs) ∧ w'.cell? ⟨h, 4, none⟩ = some (.int .i64 s.c.globs)) (go_keep)
      (first | (go_at_call 171; refine (roots_yes hrr _).mono ?_; rintro e w2 ⟨rfl, hF2⟩; (replace HH := HH.kept0 hF2); (replace hX := hX.kept hF2 (by simp)); (replace hR := hR.kept hF2 (by simp)); (replace hFF := hFF.trans (hF2.mono (by simp))); (replace kX := hX.cell); (replace fX := hX.free); (replace kR := hR.cell); (replace fR := hR.free); (replace kH := HH.cellsC (c := s.c) rfl)))
    go_wp2
    refine bodyPost_ret (v := .tuple #[.agg #[.int .i64 (1), .int .i64 ((j + 1)), .int .i64 c, .int .i64 m, .int .u64 a, .int .u64 (0), .bool (found), .int .i64 tail, .int .i64 cyc], .bool true]) (by simp [results, Try.results152, go_sem, kX, kR]) rfl ⟨rfl, ?_, ?_⟩
    · repeat (first | with_reducible exact HH | with_reducible refine HAt.other ?_ a1 a3 a2 _ | with_reducible refine HAt.other ?_ b1 b3 b2 _)
    · repeat (first | with_reducible exact hFF | with_reducible refine Fr.setNew ?_ (Nat.le_refl _) _ | with_reducible refine Fr.setNew ?_ (Nat.le_succ _) _)

set_option maxRecDepth 100000 in
set_option maxHeartbeats 4000000 in
theorem rs2a {w : World} {h ab db : Nat} {s : HS} (H : HAt w h ab db s)  (j c m a p tail cyc : Int) (found : Bool) (hj : -1000000 ≤ j ∧ j ≤ 1000000) (hp0 : 0 ≤ p) (hp1 : p < 18446744073709551616) (hl : j + 1 < s.c.roots) :
    Calls Try.prog 152 #[.pointer (some ⟨h, 0, none⟩), .agg #[.int .i64 (2), .int .i64 j, .int .i64 c, .int .i64 m, .int .u64 a, .int .u64 p, .bool (found), .int .i64 tail, .int .i64 cyc]] w fun e w' => e = .returned (.tuple #[.agg #[.int .i64 (1), .int .i64 ((j + 1)), .int .i64 c, .int .i64 m, .int .u64 a, .int .u64 (0), .bool (found), .int .i64 tail, .int .i64 cyc], .bool true]) ∧ (HAt w' h ab db (s.doIt (aCas (s.c.fieldP p 2) 0 1)) ∧ Fr [h, db] w w') := by
  have n0 := H.blk.lt
  have n1 := H.ar.dat.lt
  have n2 := H.ar.hdr.lt
  have hXn : w.heap.size ∉ [h, db] := by simp; omega
  have hRn : w.heap.size + 1 ∉ [h, db] := by simp; omega
  replace HH := (H.alloc (.cells #[.int .i64 (2), .int .i64 j, .int .i64 c, .int .i64 m, .int .u64 a, .int .u64 p, .bool (found), .int .i64 tail, .int .i64 cyc] 67)).alloc (.cells #[.int .i64 0, .int .i64 0, .int .i64 0, .int .i64 0, .int .u64 0, .int .u64 0, .bool false, .int .i64 0, .int .i64 0] 67)
  replace hX := (Blk.new w [.int .i64 (2), .int .i64 j, .int .i64 c, .int .i64 m, .int .u64 a, .int .u64 p, .bool (found), .int .i64 tail, .int .i64 cyc] 67).alloc (.cells #[.int .i64 0, .int .i64 0, .int .i64 0, .int .i64 0, .int .u64 0, .int .u64 0, .bool false, .int .i64 0, .int .i64 0] 67)
  replace hR := Blk.new (w.alloc (.cells #[.int .i64 (2), .int .i64 j, .int .i64 c, .int .i64 m, .int .u64 a, .int .u64 p, .bool (found), .int .i64 tail, .int .i64 cyc] 67)) [.int .i64 0, .int .i64 0, .int .i64 0, .int .i64 0, .int .u64 0, .int .u64 0, .bool false, .int .i64 0, .int .i64 0] 67
  simp only [World.size_alloc] at hR
  replace hFF := ((Fr.refl [h, db] w).alloc (.cells #[.int .i64 (2), .int .i64 j, .int .i64 c, .int .i64 m, .int .u64 a, .int .u64 p, .bool (found), .int .i64 tail, .int .i64 cyc] 67)).alloc (.cells #[.int .i64 0, .int .i64 0, .int .i64 0, .int .i64 0, .int .u64 0, .int .u64 0, .bool false, .int .i64 0, .int .i64 0] 67)
  have a1 : h ≠ w.heap.size := by omega
  have a2 : db ≠ w.heap.size := by omega
  have a3 : ab ≠ w.heap.size := by omega
  have b1 : h ≠ w.heap.size + 1 := by omega
  have b2 : db ≠ w.heap.size + 1 := by omega
  have b3 : ab ≠ w.heap.size + 1 := by omega
  have d1 : ¬ w.heap.size = h := by omega
  have d2 : ¬ w.heap.size = db := by omega
  have d3 : ¬ w.heap.size + 1 = h := by omega
  have d4 : ¬ w.heap.size + 1 = db := by omega
  have hjw : IntKind.i64.wrap (j + 1) = j + 1 := w64 _ (by omega)
  have hrr := H.right
  go_enter Try.func152, Try.ntmps152
  go_wp2_with (first | (go_at_call 173; refine (field_any HH _ _ (by omega) (by omega)).mono ?_; rintro e w2 ⟨rfl, hF2⟩; (replace HH := HH.kept0 hF2); (replace hX := hX.kept hF2 (by simp)); (replace hR := hR.kept hF2 (by simp)); (replace hFF := hFF.trans (hF2.mono (by simp))); (replace kX := hX.cell); (replace fX := hX.free); (replace kR := hR.cell); (replace fR := hR.free); (replace kH := HH.cellsC (c := s.c) rfl)) | (go_at_call 172; refine (hcas_any HH _ _ _ (by omega) (by omega)).mono ?_; rintro e w2 ⟨rfl, HH, hF2⟩; (replace hX := hX.kept hF2 hXn); (replace hR := hR.kept hF2 hRn); (replace hFF := hFF.trans hF2); (replace kX := hX.cell); (replace fX := hX.free); (replace kR := hR.cell); (replace fR := hR.free); (replace kH := HH.cellsC (c := s.c) rfl)))
  replace hX := (((hX.set 5 (.int .u64 0)).set 0 (.int .i64 1)).set 1 (.int .i64 (j + 1)))
  simp only [List.set_cons_zero, List.set_cons_succ] at hX
  replace HH := (((HH.other (p := ⟨w.heap.size, 5, none⟩) a1 a3 a2 (.int .u64 0)).other (p := ⟨w.heap.size, 0, none⟩) a1 a3 a2 (.int .i64 1)).other (p := ⟨w.heap.size, 1, none⟩) a1 a3 a2 (.int .i64 (j + 1)))
  replace hR := (((hR.other (p := ⟨w.heap.size, 5, none⟩) (Nat.succ_ne_self _) (.int .u64 0)).other (p := ⟨w.heap.size, 0, none⟩) (Nat.succ_ne_self _) (.int .i64 1)).other (p := ⟨w.heap.size, 1, none⟩) (Nat.succ_ne_self _) (.int .i64 (j + 1)))
  replace hFF := (((hFF.setNew (p := ⟨w.heap.size, 5, none⟩) (Nat.le_refl _) (.int .u64 0)).setNew (p := ⟨w.heap.size, 0, none⟩) (Nat.le_refl _) (.int .i64 1)).setNew (p := ⟨w.heap.size, 1, none⟩) (Nat.le_refl _) (.int .i64 (j + 1)))
  replace kX := hX.cell
  replace fX := hX.free
  replace kR := hR.cell
  replace fR := hR.free
  replace kH := HH.cellsC (c := s.c) rfl
  replace HH := HH.drew
  replace hX := hX.drew
  replace hR := hR.drew
  replace hFF := hFF.drew
  replace kX := hX.cell
  replace fX := hX.free
  replace kR := hR.cell
  replace fR := hR.free
  replace kH := HH.cellsC (c := s.c) rfl
  go_region_held3 (fun w' => w'.cell? ⟨w.heap.size, 1, none⟩ = some (.int .i64 (j + 1)) ∧ w'.cell? ⟨h, 1, none⟩ = some (.int .i64 s.c.cells) ∧ w'.cell? ⟨h, 2, none⟩ = some (.int .i64 s.c.muts) ∧ w'.cell? ⟨h, 3, none⟩ = some (.int .i64 s.c.regs) ∧ w'.cell? ⟨h, 4, none⟩ = some (.int .i64 s.c.globs)) (go_keep)
    (first | (go_at_call 171; refine (roots_yes hrr _).mono ?_; rintro e w2 ⟨rfl, hF2⟩; (replace HH := HH.kept0 hF2); (replace hX := hX.kept hF2 (by simp)); (replace hR := hR.kept hF2 (by simp)); (replace hFF := hFF.trans (hF2.mono (by simp))); (replace kX := hX.cell); (replace fX := hX.free); (replace kR := hR.cell); (replace fR := hR.free); (replace kH := HH.cellsC (c := s.c) rfl)))
  go_wp2
  refine bodyPost_ret (v := .tuple #[.agg #[.int .i64 (1), .int .i64 ((j + 1)), .int .i64 c, .int .i64 m, .int .u64 a, .int .u64 (0), .bool (found), .int .i64 tail, .int .i64 cyc], .bool true]) (by simp [results, Try.results152, go_sem, kX, kR]) rfl ⟨rfl, ?_, ?_⟩
  · repeat (first | with_reducible exact HH | with_reducible refine HAt.other ?_ a1 a3 a2 _ | with_reducible refine HAt.other ?_ b1 b3 b2 _)
  · repeat (first | with_reducible exact hFF | with_reducible refine Fr.setNew ?_ (Nat.le_refl _) _ | with_reducible refine Fr.setNew ?_ (Nat.le_succ _) _)

set_option maxRecDepth 100000 in
set_option maxHeartbeats 4000000 in
theorem rs1nb {w : World} {h ab db : Nat} {s : HS} (H : HAt w h ab db s)  (j c m a p tail cyc : Int) (found : Bool) (hj : -1000000 ≤ j ∧ j ≤ 1000000) (hn : isCell (wAt s.ws (s.c.rootP j)) = false) (hl : ¬ j + 1 < s.c.roots) :
    Calls Try.prog 152 #[.pointer (some ⟨h, 0, none⟩), .agg #[.int .i64 (1), .int .i64 j, .int .i64 c, .int .i64 m, .int .u64 a, .int .u64 p, .bool (found), .int .i64 tail, .int .i64 cyc]] w fun e w' => e = .returned (.tuple #[.agg #[.int .i64 (3), .int .i64 ((j + 1)), .int .i64 c, .int .i64 m, .int .u64 a, .int .u64 (0), .bool (found), .int .i64 tail, .int .i64 cyc], .bool true]) ∧ (HAt w' h ab db (s.doIt (aLoad (s.c.rootP j))) ∧ Fr [h, db] w w') := by
  have n0 := H.blk.lt
  have n1 := H.ar.dat.lt
  have n2 := H.ar.hdr.lt
  have hXn : w.heap.size ∉ [h, db] := by simp; omega
  have hRn : w.heap.size + 1 ∉ [h, db] := by simp; omega
  replace HH := (H.alloc (.cells #[.int .i64 (1), .int .i64 j, .int .i64 c, .int .i64 m, .int .u64 a, .int .u64 p, .bool (found), .int .i64 tail, .int .i64 cyc] 67)).alloc (.cells #[.int .i64 0, .int .i64 0, .int .i64 0, .int .i64 0, .int .u64 0, .int .u64 0, .bool false, .int .i64 0, .int .i64 0] 67)
  replace hX := (Blk.new w [.int .i64 (1), .int .i64 j, .int .i64 c, .int .i64 m, .int .u64 a, .int .u64 p, .bool (found), .int .i64 tail, .int .i64 cyc] 67).alloc (.cells #[.int .i64 0, .int .i64 0, .int .i64 0, .int .i64 0, .int .u64 0, .int .u64 0, .bool false, .int .i64 0, .int .i64 0] 67)
  replace hR := Blk.new (w.alloc (.cells #[.int .i64 (1), .int .i64 j, .int .i64 c, .int .i64 m, .int .u64 a, .int .u64 p, .bool (found), .int .i64 tail, .int .i64 cyc] 67)) [.int .i64 0, .int .i64 0, .int .i64 0, .int .i64 0, .int .u64 0, .int .u64 0, .bool false, .int .i64 0, .int .i64 0] 67
  simp only [World.size_alloc] at hR
  replace hFF := ((Fr.refl [h, db] w).alloc (.cells #[.int .i64 (1), .int .i64 j, .int .i64 c, .int .i64 m, .int .u64 a, .int .u64 p, .bool (found), .int .i64 tail, .int .i64 cyc] 67)).alloc (.cells #[.int .i64 0, .int .i64 0, .int .i64 0, .int .i64 0, .int .u64 0, .int .u64 0, .bool false, .int .i64 0, .int .i64 0] 67)
  have a1 : h ≠ w.heap.size := by omega
  have a2 : db ≠ w.heap.size := by omega
  have a3 : ab ≠ w.heap.size := by omega
  have b1 : h ≠ w.heap.size + 1 := by omega
  have b2 : db ≠ w.heap.size + 1 := by omega
  have b3 : ab ≠ w.heap.size + 1 := by omega
  have d1 : ¬ w.heap.size = h := by omega
  have d2 : ¬ w.heap.size = db := by omega
  have d3 : ¬ w.heap.size + 1 = h := by omega
  have d4 : ¬ w.heap.size + 1 = db := by omega
  have hjw : IntKind.i64.wrap (j + 1) = j + 1 := w64 _ (by omega)
  have hrr := H.right
  have hb := H.ar.bd (s.c.rootP j)
  have hb0 := hb.1
  have hb1 := hb.2
  clear hb
  go_enter Try.func152, Try.ntmps152
  go_upto_region 6 with fail
  go_cut [] from 16 to 25 (fun wx => ∃ w2, wx = w2.setCell ⟨w.heap.size, 5, none⟩ (.int .u64 (wAt s.ws (s.c.rootP j))) ∧ HAt w2 h ab db (s.doIt (aLoad (s.c.rootP j))) ∧ Blk w2 w.heap.size 67 [.int .i64 (1), .int .i64 j, .int .i64 c, .int .i64 m, .int .u64 a, .int .u64 p, .bool (found), .int .i64 tail, .int .i64 cyc] ∧ Blk w2 (w.heap.size + 1) 67 [.int .i64 0, .int .i64 0, .int .i64 0, .int .i64 0, .int .u64 0, .int .u64 0, .bool false, .int .i64 0, .int .i64 0] ∧ Fr [h, db] w w2)
  case first =>
    replace HH := HH.drew
    replace hX := hX.drew
    replace hR := hR.drew
    replace hFF := hFF.drew
    replace kX := hX.cell
    replace fX := hX.free
    replace kR := hR.cell
    replace fR := hR.free
    replace kH := HH.cellsC (c := s.c) rfl
    go_region_with (first | (go_at_call 117; refine (root_any HH.right _ (by omega) _).mono ?_; rintro e w2 ⟨rfl, hF2⟩; (replace HH := HH.kept0 hF2); (replace hX := hX.kept hF2 (by simp)); (replace hR := hR.kept hF2 (by simp)); (replace hFF := hFF.trans (hF2.mono (by simp))); (replace kX := hX.cell); (replace fX := hX.free); (replace kR := hR.cell); (replace fR := hR.free); (replace kH := HH.cellsC (c := s.c) rfl)) | (go_at_call 101; refine (hload_any HH _).mono ?_; rintro e w2 ⟨rfl, HH, hF2⟩; (replace hX := hX.kept hF2 hXn); (replace hR := hR.kept hF2 hRn); (replace hFF := hFF.trans hF2); (replace kX := hX.cell); (replace fX := hX.free); (replace kR := hR.cell); (replace fR := hR.free); (replace kH := HH.cellsC (c := s.c) rfl)))
    all_goals (go_wp2_with fail; go_meet; exact ⟨_, rfl, HH, hX, hR, hFF⟩)
  case rest =>
    obtain ⟨w2, rfl, HH, hX, hR, hFF⟩ := hcut
    replace kX := hX.cell
    replace fX := hX.free
    replace kR := hR.cell
    replace fR := hR.free
    replace kH := HH.cellsC (c := s.c) rfl
    go_wp2_with (first | (go_at_call 114; refine (isCell_any _ (by omega) (by omega) _).mono ?_; rintro e w2 ⟨rfl, rfl⟩))
    replace hX := ((((hX.set 5 (.int .u64 (wAt s.ws (s.c.rootP j)))).set 5 (.int .u64 0)).set 0 (.int .i64 1)).set 1 (.int .i64 (j + 1)))
    simp only [List.set_cons_zero, List.set_cons_succ] at hX
    replace HH := ((((HH.other (p := ⟨w.heap.size, 5, none⟩) a1 a3 a2 (.int .u64 (wAt s.ws (s.c.rootP j)))).other (p := ⟨w.heap.size, 5, none⟩) a1 a3 a2 (.int .u64 0)).other (p := ⟨w.heap.size, 0, none⟩) a1 a3 a2 (.int .i64 1)).other (p := ⟨w.heap.size, 1, none⟩) a1 a3 a2 (.int .i64 (j + 1)))
    replace hR := ((((hR.other (p := ⟨w.heap.size, 5, none⟩) (Nat.succ_ne_self _) (.int .u64 (wAt s.ws (s.c.rootP j)))).other (p := ⟨w.heap.size, 5, none⟩) (Nat.succ_ne_self _) (.int .u64 0)).other (p := ⟨w.heap.size, 0, none⟩) (Nat.succ_ne_self _) (.int .i64 1)).other (p := ⟨w.heap.size, 1, none⟩) (Nat.succ_ne_self _) (.int .i64 (j + 1)))
    replace hFF := ((((hFF.setNew (p := ⟨w.heap.size, 5, none⟩) (Nat.le_refl _) (.int .u64 (wAt s.ws (s.c.rootP j)))).setNew (p := ⟨w.heap.size, 5, none⟩) (Nat.le_refl _) (.int .u64 0)).setNew (p := ⟨w.heap.size, 0, none⟩) (Nat.le_refl _) (.int .i64 1)).setNew (p := ⟨w.heap.size, 1, none⟩) (Nat.le_refl _) (.int .i64 (j + 1)))
    replace kX := hX.cell
    replace fX := hX.free
    replace kR := hR.cell
    replace fR := hR.free
    replace kH := HH.cellsC (c := s.c) rfl
    replace HH := HH.drew
    replace hX := hX.drew
    replace hR := hR.drew
    replace hFF := hFF.drew
    replace kX := hX.cell
    replace fX := hX.free
    replace kR := hR.cell
    replace fR := hR.free
    replace kH := HH.cellsC (c := s.c) rfl
    go_region_held3 (fun w' => w'.cell? ⟨w.heap.size, 1, none⟩ = some (.int .i64 (j + 1)) ∧ w'.cell? ⟨h, 1, none⟩ = some (.int .i64 s.c.cells) ∧ w'.cell? ⟨h, 2, none⟩ = some (.int .i64 s.c.muts) ∧ w'.cell? ⟨h, 3, none⟩ = some (.int .i64 s.c.regs) ∧ w'.cell? ⟨h, 4, none⟩ = some (.int .i64 s.c.globs)) (go_keep)
      (first | (go_at_call 171; refine (roots_yes hrr _).mono ?_; rintro e w2 ⟨rfl, hF2⟩; (replace HH := HH.kept0 hF2); (replace hX := hX.kept hF2 (by simp)); (replace hR := hR.kept hF2 (by simp)); (replace hFF := hFF.trans (hF2.mono (by simp))); (replace kX := hX.cell); (replace fX := hX.free); (replace kR := hR.cell); (replace fR := hR.free); (replace kH := HH.cellsC (c := s.c) rfl)))
    go_wp2
    refine bodyPost_ret (v := .tuple #[.agg #[.int .i64 (3), .int .i64 ((j + 1)), .int .i64 c, .int .i64 m, .int .u64 a, .int .u64 (0), .bool (found), .int .i64 tail, .int .i64 cyc], .bool true]) (by simp [results, Try.results152, go_sem, kX, kR]) rfl ⟨rfl, ?_, ?_⟩
    · repeat (first | with_reducible exact HH | with_reducible refine HAt.other ?_ a1 a3 a2 _ | with_reducible refine HAt.other ?_ b1 b3 b2 _)
    · repeat (first | with_reducible exact hFF | with_reducible refine Fr.setNew ?_ (Nat.le_refl _) _ | with_reducible refine Fr.setNew ?_ (Nat.le_succ _) _)

set_option maxRecDepth 100000 in
set_option maxHeartbeats 4000000 in
theorem rs2b {w : World} {h ab db : Nat} {s : HS} (H : HAt w h ab db s)  (j c m a p tail cyc : Int) (found : Bool) (hj : -1000000 ≤ j ∧ j ≤ 1000000) (hp0 : 0 ≤ p) (hp1 : p < 18446744073709551616) (hl : ¬ j + 1 < s.c.roots) :
    Calls Try.prog 152 #[.pointer (some ⟨h, 0, none⟩), .agg #[.int .i64 (2), .int .i64 j, .int .i64 c, .int .i64 m, .int .u64 a, .int .u64 p, .bool (found), .int .i64 tail, .int .i64 cyc]] w fun e w' => e = .returned (.tuple #[.agg #[.int .i64 (3), .int .i64 ((j + 1)), .int .i64 c, .int .i64 m, .int .u64 a, .int .u64 (0), .bool (found), .int .i64 tail, .int .i64 cyc], .bool true]) ∧ (HAt w' h ab db (s.doIt (aCas (s.c.fieldP p 2) 0 1)) ∧ Fr [h, db] w w') := by
  have n0 := H.blk.lt
  have n1 := H.ar.dat.lt
  have n2 := H.ar.hdr.lt
  have hXn : w.heap.size ∉ [h, db] := by simp; omega
  have hRn : w.heap.size + 1 ∉ [h, db] := by simp; omega
  replace HH := (H.alloc (.cells #[.int .i64 (2), .int .i64 j, .int .i64 c, .int .i64 m, .int .u64 a, .int .u64 p, .bool (found), .int .i64 tail, .int .i64 cyc] 67)).alloc (.cells #[.int .i64 0, .int .i64 0, .int .i64 0, .int .i64 0, .int .u64 0, .int .u64 0, .bool false, .int .i64 0, .int .i64 0] 67)
  replace hX := (Blk.new w [.int .i64 (2), .int .i64 j, .int .i64 c, .int .i64 m, .int .u64 a, .int .u64 p, .bool (found), .int .i64 tail, .int .i64 cyc] 67).alloc (.cells #[.int .i64 0, .int .i64 0, .int .i64 0, .int .i64 0, .int .u64 0, .int .u64 0, .bool false, .int .i64 0, .int .i64 0] 67)
  replace hR := Blk.new (w.alloc (.cells #[.int .i64 (2), .int .i64 j, .int .i64 c, .int .i64 m, .int .u64 a, .int .u64 p, .bool (found), .int .i64 tail, .int .i64 cyc] 67)) [.int .i64 0, .int .i64 0, .int .i64 0, .int .i64 0, .int .u64 0, .int .u64 0, .bool false, .int .i64 0, .int .i64 0] 67
  simp only [World.size_alloc] at hR
  replace hFF := ((Fr.refl [h, db] w).alloc (.cells #[.int .i64 (2), .int .i64 j, .int .i64 c, .int .i64 m, .int .u64 a, .int .u64 p, .bool (found), .int .i64 tail, .int .i64 cyc] 67)).alloc (.cells #[.int .i64 0, .int .i64 0, .int .i64 0, .int .i64 0, .int .u64 0, .int .u64 0, .bool false, .int .i64 0, .int .i64 0] 67)
  have a1 : h ≠ w.heap.size := by omega
  have a2 : db ≠ w.heap.size := by omega
  have a3 : ab ≠ w.heap.size := by omega
  have b1 : h ≠ w.heap.size + 1 := by omega
  have b2 : db ≠ w.heap.size + 1 := by omega
  have b3 : ab ≠ w.heap.size + 1 := by omega
  have d1 : ¬ w.heap.size = h := by omega
  have d2 : ¬ w.heap.size = db := by omega
  have d3 : ¬ w.heap.size + 1 = h := by omega
  have d4 : ¬ w.heap.size + 1 = db := by omega
  have hjw : IntKind.i64.wrap (j + 1) = j + 1 := w64 _ (by omega)
  have hrr := H.right
  go_enter Try.func152, Try.ntmps152
  go_wp2_with (first | (go_at_call 173; refine (field_any HH _ _ (by omega) (by omega)).mono ?_; rintro e w2 ⟨rfl, hF2⟩; (replace HH := HH.kept0 hF2); (replace hX := hX.kept hF2 (by simp)); (replace hR := hR.kept hF2 (by simp)); (replace hFF := hFF.trans (hF2.mono (by simp))); (replace kX := hX.cell); (replace fX := hX.free); (replace kR := hR.cell); (replace fR := hR.free); (replace kH := HH.cellsC (c := s.c) rfl)) | (go_at_call 172; refine (hcas_any HH _ _ _ (by omega) (by omega)).mono ?_; rintro e w2 ⟨rfl, HH, hF2⟩; (replace hX := hX.kept hF2 hXn); (replace hR := hR.kept hF2 hRn); (replace hFF := hFF.trans hF2); (replace kX := hX.cell); (replace fX := hX.free); (replace kR := hR.cell); (replace fR := hR.free); (replace kH := HH.cellsC (c := s.c) rfl)))
  replace hX := (((hX.set 5 (.int .u64 0)).set 0 (.int .i64 1)).set 1 (.int .i64 (j + 1)))
  simp only [List.set_cons_zero, List.set_cons_succ] at hX
  replace HH := (((HH.other (p := ⟨w.heap.size, 5, none⟩) a1 a3 a2 (.int .u64 0)).other (p := ⟨w.heap.size, 0, none⟩) a1 a3 a2 (.int .i64 1)).other (p := ⟨w.heap.size, 1, none⟩) a1 a3 a2 (.int .i64 (j + 1)))
  replace hR := (((hR.other (p := ⟨w.heap.size, 5, none⟩) (Nat.succ_ne_self _) (.int .u64 0)).other (p := ⟨w.heap.size, 0, none⟩) (Nat.succ_ne_self _) (.int .i64 1)).other (p := ⟨w.heap.size, 1, none⟩) (Nat.succ_ne_self _) (.int .i64 (j + 1)))
  replace hFF := (((hFF.setNew (p := ⟨w.heap.size, 5, none⟩) (Nat.le_refl _) (.int .u64 0)).setNew (p := ⟨w.heap.size, 0, none⟩) (Nat.le_refl _) (.int .i64 1)).setNew (p := ⟨w.heap.size, 1, none⟩) (Nat.le_refl _) (.int .i64 (j + 1)))
  replace kX := hX.cell
  replace fX := hX.free
  replace kR := hR.cell
  replace fR := hR.free
  replace kH := HH.cellsC (c := s.c) rfl
  replace HH := HH.drew
  replace hX := hX.drew
  replace hR := hR.drew
  replace hFF := hFF.drew
  replace kX := hX.cell
  replace fX := hX.free
  replace kR := hR.cell
  replace fR := hR.free
  replace kH := HH.cellsC (c := s.c) rfl
  go_region_held3 (fun w' => w'.cell? ⟨w.heap.size, 1, none⟩ = some (.int .i64 (j + 1)) ∧ w'.cell? ⟨h, 1, none⟩ = some (.int .i64 s.c.cells) ∧ w'.cell? ⟨h, 2, none⟩ = some (.int .i64 s.c.muts) ∧ w'.cell? ⟨h, 3, none⟩ = some (.int .i64 s.c.regs) ∧ w'.cell? ⟨h, 4, none⟩ = some (.int .i64 s.c.globs)) (go_keep)
    (first | (go_at_call 171; refine (roots_yes hrr _).mono ?_; rintro e w2 ⟨rfl, hF2⟩; (replace HH := HH.kept0 hF2); (replace hX := hX.kept hF2 (by simp)); (replace hR := hR.kept hF2 (by simp)); (replace hFF := hFF.trans (hF2.mono (by simp))); (replace kX := hX.cell); (replace fX := hX.free); (replace kR := hR.cell); (replace fR := hR.free); (replace kH := HH.cellsC (c := s.c) rfl)))
  go_wp2
  refine bodyPost_ret (v := .tuple #[.agg #[.int .i64 (3), .int .i64 ((j + 1)), .int .i64 c, .int .i64 m, .int .u64 a, .int .u64 (0), .bool (found), .int .i64 tail, .int .i64 cyc], .bool true]) (by simp [results, Try.results152, go_sem, kX, kR]) rfl ⟨rfl, ?_, ?_⟩
  · repeat (first | with_reducible exact HH | with_reducible refine HAt.other ?_ a1 a3 a2 _ | with_reducible refine HAt.other ?_ b1 b3 b2 _)
  · repeat (first | with_reducible exact hFF | with_reducible refine Fr.setNew ?_ (Nat.le_refl _) _ | with_reducible refine Fr.setNew ?_ (Nat.le_succ _) _)

set_option maxRecDepth 100000 in
set_option maxHeartbeats 4000000 in
theorem rs1y {w : World} {h ab db : Nat} {s : HS} (H : HAt w h ab db s)  (j c m a p tail cyc : Int) (found : Bool) (hj : -1000000 ≤ j ∧ j ≤ 1000000) (hn : isCell (wAt s.ws (s.c.rootP j)) = true) :
    Calls Try.prog 152 #[.pointer (some ⟨h, 0, none⟩), .agg #[.int .i64 (1), .int .i64 j, .int .i64 c, .int .i64 m, .int .u64 a, .int .u64 p, .bool (found), .int .i64 tail, .int .i64 cyc]] w fun e w' => e = .returned (.tuple #[.agg #[.int .i64 (2), .int .i64 j, .int .i64 c, .int .i64 m, .int .u64 a, .int .u64 ((wAt s.ws (s.c.rootP j))), .bool (found), .int .i64 tail, .int .i64 cyc], .bool true]) ∧ (HAt w' h ab db (s.doIt (aLoad (s.c.rootP j))) ∧ Fr [h, db] w w') := by
  have n0 := H.blk.lt
  have n1 := H.ar.dat.lt
  have n2 := H.ar.hdr.lt
  have hXn : w.heap.size ∉ [h, db] := by simp; omega
  have hRn : w.heap.size + 1 ∉ [h, db] := by simp; omega
  replace HH := (H.alloc (.cells #[.int .i64 (1), .int .i64 j, .int .i64 c, .int .i64 m, .int .u64 a, .int .u64 p, .bool (found), .int .i64 tail, .int .i64 cyc] 67)).alloc (.cells #[.int .i64 0, .int .i64 0, .int .i64 0, .int .i64 0, .int .u64 0, .int .u64 0, .bool false, .int .i64 0, .int .i64 0] 67)
  replace hX := (Blk.new w [.int .i64 (1), .int .i64 j, .int .i64 c, .int .i64 m, .int .u64 a, .int .u64 p, .bool (found), .int .i64 tail, .int .i64 cyc] 67).alloc (.cells #[.int .i64 0, .int .i64 0, .int .i64 0, .int .i64 0, .int .u64 0, .int .u64 0, .bool false, .int .i64 0, .int .i64 0] 67)
  replace hR := Blk.new (w.alloc (.cells #[.int .i64 (1), .int .i64 j, .int .i64 c, .int .i64 m, .int .u64 a, .int .u64 p, .bool (found), .int .i64 tail, .int .i64 cyc] 67)) [.int .i64 0, .int .i64 0, .int .i64 0, .int .i64 0, .int .u64 0, .int .u64 0, .bool false, .int .i64 0, .int .i64 0] 67
  simp only [World.size_alloc] at hR
  replace hFF := ((Fr.refl [h, db] w).alloc (.cells #[.int .i64 (1), .int .i64 j, .int .i64 c, .int .i64 m, .int .u64 a, .int .u64 p, .bool (found), .int .i64 tail, .int .i64 cyc] 67)).alloc (.cells #[.int .i64 0, .int .i64 0, .int .i64 0, .int .i64 0, .int .u64 0, .int .u64 0, .bool false, .int .i64 0, .int .i64 0] 67)
  have a1 : h ≠ w.heap.size := by omega
  have a2 : db ≠ w.heap.size := by omega
  have a3 : ab ≠ w.heap.size := by omega
  have b1 : h ≠ w.heap.size + 1 := by omega
  have b2 : db ≠ w.heap.size + 1 := by omega
  have b3 : ab ≠ w.heap.size + 1 := by omega
  have d1 : ¬ w.heap.size = h := by omega
  have d2 : ¬ w.heap.size = db := by omega
  have d3 : ¬ w.heap.size + 1 = h := by omega
  have d4 : ¬ w.heap.size + 1 = db := by omega
  have hb := H.ar.bd (s.c.rootP j)
  have hb0 := hb.1
  have hb1 := hb.2
  clear hb
  have hrr := H.right
  go_enter Try.func152, Try.ntmps152
  go_upto_region 6 with fail
  go_cut [] from 16 to 25 (fun wx => ∃ w2, wx = w2.setCell ⟨w.heap.size, 5, none⟩ (.int .u64 (wAt s.ws (s.c.rootP j))) ∧ HAt w2 h ab db (s.doIt (aLoad (s.c.rootP j))) ∧ Blk w2 w.heap.size 67 [.int .i64 (1), .int .i64 j, .int .i64 c, .int .i64 m, .int .u64 a, .int .u64 p, .bool (found), .int .i64 tail, .int .i64 cyc] ∧ Blk w2 (w.heap.size + 1) 67 [.int .i64 0, .int .i64 0, .int .i64 0, .int .i64 0, .int .u64 0, .int .u64 0, .bool false, .int .i64 0, .int .i64 0] ∧ Fr [h, db] w w2)
  case first =>
    replace HH := HH.drew
    replace hX := hX.drew
    replace hR := hR.drew
    replace hFF := hFF.drew
    replace kX := hX.cell
    replace fX := hX.free
    replace kR := hR.cell
    replace fR := hR.free
    replace kH := HH.cellsC (c := s.c) rfl
    go_region_with (first | (go_at_call 117; refine (root_any HH.right _ (by omega) _).mono ?_; rintro e w2 ⟨rfl, hF2⟩; (replace HH := HH.kept0 hF2); (replace hX := hX.kept hF2 (by simp)); (replace hR := hR.kept hF2 (by simp)); (replace hFF := hFF.trans (hF2.mono (by simp))); (replace kX := hX.cell); (replace fX := hX.free); (replace kR := hR.cell); (replace fR := hR.free); (replace kH := HH.cellsC (c := s.c) rfl)) | (go_at_call 101; refine (hload_any HH _).mono ?_; rintro e w2 ⟨rfl, HH, hF2⟩; (replace hX := hX.kept hF2 hXn); (replace hR := hR.kept hF2 hRn); (replace hFF := hFF.trans hF2); (replace kX := hX.cell); (replace fX := hX.free); (replace kR := hR.cell); (replace fR := hR.free); (replace kH := HH.cellsC (c := s.c) rfl)))
    all_goals (go_wp2_with fail; go_meet; exact ⟨_, rfl, HH, hX, hR, hFF⟩)
  case rest =>
    obtain ⟨w2, rfl, HH, hX, hR, hFF⟩ := hcut
    replace kX := hX.cell
    replace fX := hX.free
    replace kR := hR.cell
    replace fR := hR.free
    replace kH := HH.cellsC (c := s.c) rfl
    go_wp2_with (first | (go_at_call 114; refine (isCell_any _ (by omega) (by omega) _).mono ?_; rintro e w2 ⟨rfl, rfl⟩))
    refine bodyPost_ret (v := .tuple #[.agg #[.int .i64 (2), .int .i64 j, .int .i64 c, .int .i64 m, .int .u64 a, .int .u64 ((wAt s.ws (s.c.rootP j))), .bool (found), .int .i64 tail, .int .i64 cyc], .bool true]) (by simp [results, Try.results152, go_sem, kX, kR]) rfl ⟨rfl, ?_, ?_⟩
    · repeat (first | with_reducible exact HH | with_reducible refine HAt.other ?_ a1 a3 a2 _ | with_reducible refine HAt.other ?_ b1 b3 b2 _)
    · repeat (first | with_reducible exact hFF | with_reducible refine Fr.setNew ?_ (Nat.le_refl _) _ | with_reducible refine Fr.setNew ?_ (Nat.le_succ _) _)

set_option maxRecDepth 100000 in
set_option maxHeartbeats 4000000 in
theorem rsno {w : World} {h ab db : Nat} {s : HS} (H : HAt w h ab db s)  (line j c m a p tail cyc : Int) (found : Bool) (k1 : ¬ line = 1) (k2 : ¬ line = 2) :
    Calls Try.prog 152 #[.pointer (some ⟨h, 0, none⟩), .agg #[.int .i64 line, .int .i64 j, .int .i64 c, .int .i64 m, .int .u64 a, .int .u64 p, .bool (found), .int .i64 tail, .int .i64 cyc]] w fun e w' => e = .returned (.tuple #[.agg #[.int .i64 line, .int .i64 j, .int .i64 c, .int .i64 m, .int .u64 a, .int .u64 p, .bool (found), .int .i64 tail, .int .i64 cyc], .bool false]) ∧ (HAt w' h ab db (s) ∧ Fr [h, db] w w') := by
  have n0 := H.blk.lt
  have n1 := H.ar.dat.lt
  have n2 := H.ar.hdr.lt
  have hXn : w.heap.size ∉ [h, db] := by simp; omega
  have hRn : w.heap.size + 1 ∉ [h, db] := by simp; omega
  replace HH := (H.alloc (.cells #[.int .i64 line, .int .i64 j, .int .i64 c, .int .i64 m, .int .u64 a, .int .u64 p, .bool (found), .int .i64 tail, .int .i64 cyc] 67)).alloc (.cells #[.int .i64 0, .int .i64 0, .int .i64 0, .int .i64 0, .int .u64 0, .int .u64 0, .bool false, .int .i64 0, .int .i64 0] 67)
  replace hX := (Blk.new w [.int .i64 line, .int .i64 j, .int .i64 c, .int .i64 m, .int .u64 a, .int .u64 p, .bool (found), .int .i64 tail, .int .i64 cyc] 67).alloc (.cells #[.int .i64 0, .int .i64 0, .int .i64 0, .int .i64 0, .int .u64 0, .int .u64 0, .bool false, .int .i64 0, .int .i64 0] 67)
  replace hR := Blk.new (w.alloc (.cells #[.int .i64 line, .int .i64 j, .int .i64 c, .int .i64 m, .int .u64 a, .int .u64 p, .bool (found), .int .i64 tail, .int .i64 cyc] 67)) [.int .i64 0, .int .i64 0, .int .i64 0, .int .i64 0, .int .u64 0, .int .u64 0, .bool false, .int .i64 0, .int .i64 0] 67
  simp only [World.size_alloc] at hR
  replace hFF := ((Fr.refl [h, db] w).alloc (.cells #[.int .i64 line, .int .i64 j, .int .i64 c, .int .i64 m, .int .u64 a, .int .u64 p, .bool (found), .int .i64 tail, .int .i64 cyc] 67)).alloc (.cells #[.int .i64 0, .int .i64 0, .int .i64 0, .int .i64 0, .int .u64 0, .int .u64 0, .bool false, .int .i64 0, .int .i64 0] 67)
  have a1 : h ≠ w.heap.size := by omega
  have a2 : db ≠ w.heap.size := by omega
  have a3 : ab ≠ w.heap.size := by omega
  have b1 : h ≠ w.heap.size + 1 := by omega
  have b2 : db ≠ w.heap.size + 1 := by omega
  have b3 : ab ≠ w.heap.size + 1 := by omega
  have d1 : ¬ w.heap.size = h := by omega
  have d2 : ¬ w.heap.size = db := by omega
  have d3 : ¬ w.heap.size + 1 = h := by omega
  have d4 : ¬ w.heap.size + 1 = db := by omega
  go_enter Try.func152, Try.ntmps152
  go_wp2
  refine bodyPost_ret (v := .tuple #[.agg #[.int .i64 line, .int .i64 j, .int .i64 c, .int .i64 m, .int .u64 a, .int .u64 p, .bool (found), .int .i64 tail, .int .i64 cyc], .bool false]) (by simp [results, Try.results152, go_sem]) rfl ⟨rfl, ?_, ?_⟩
  · exact (H.alloc _).alloc _
  · exact ((Fr.refl _ _).alloc _).alloc _

theorem rsnil (w : World)  (line j c m a p tail cyc : Int) (found : Bool)  :
    Calls Try.prog 152 #[.pointer none, .agg #[.int .i64 line, .int .i64 j, .int .i64 c, .int .i64 m, .int .u64 a, .int .u64 p, .bool (found), .int .i64 tail, .int .i64 cyc]] w fun e w' => e = .returned (.tuple #[.agg #[.int .i64 line, .int .i64 j, .int .i64 c, .int .i64 m, .int .u64 a, .int .u64 p, .bool (found), .int .i64 tail, .int .i64 cyc], .bool false]) ∧ Fr [] w w' := by
  go_enter Try.func152, Try.ntmps152
  go_wp2
  refine bodyPost_ret (v := .tuple #[.agg #[.int .i64 line, .int .i64 j, .int .i64 c, .int .i64 m, .int .u64 a, .int .u64 p, .bool (found), .int .i64 tail, .int .i64 cyc], .bool false]) (by simp [results, Try.results152, go_sem]) rfl ⟨rfl, ((Fr.refl _ _).alloc _).alloc _⟩

end Go.Proofs.Ytnhnbgkhbhgifaa
