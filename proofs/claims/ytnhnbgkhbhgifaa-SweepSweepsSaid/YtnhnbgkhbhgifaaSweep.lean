/- sweep.Step line by line. -/
import Derived.Test.YtnhnbgkhbhgifaaRoots
import Derived.Test.YtnhnbgkhbhgifaaRootsBeg
namespace Go.Proofs.Ytnhnbgkhbhgifaa
open Go.RowKit
set_option linter.unusedVariables false
set_option linter.unusedSimpArgs false

theorem cellW_bd (i : Int) : 0 ≤ cellW i ∧ cellW i < 18446744073709551616 := by unfold cellW; split <;> omega

set_option maxRecDepth 100000 in
set_option maxHeartbeats 4000000 in
theorem sw20w {w : World} {h ab db : Nat} {s : HS} (H : HAt w h ab db s)  (j c m a p tail cyc : Int) (found : Bool) (hc : -1000000 ≤ c ∧ c ≤ 1000000) (hy : -1000000 ≤ cyc ∧ cyc ≤ 1000000) (ht : -1000000 ≤ tail ∧ tail ≤ 1000000) (hw : (wAt s.ws (s.c.cellP 2 c)) = 0) :
    Calls Try.prog 34 #[.pointer (some ⟨h, 0, none⟩), .agg #[.int .i64 (20), .int .i64 j, .int .i64 c, .int .i64 m, .int .u64 a, .int .u64 p, .bool (found), .int .i64 tail, .int .i64 cyc]] w fun e w' => e = .returned (.tuple #[.agg #[.int .i64 (21), .int .i64 j, .int .i64 c, .int .i64 m, .int .u64 a, .int .u64 p, .bool (found), .int .i64 tail, .int .i64 cyc], .int .i64 0, .bool true]) ∧ (HAt w' h ab db (s.doIt (aLoad (s.c.cellP 2 c))) ∧ Fr [h, db] w w') := by
  have n0 := H.blk.lt
  have n1 := H.ar.dat.lt
  have n2 := H.ar.hdr.lt
  have hXn : w.heap.size ∉ [h, db] := by simp; omega
  have hRn : w.heap.size + 1 ∉ [h, db] := by simp; omega
  replace HH := (H.alloc (.cells #[.int .i64 (20), .int .i64 j, .int .i64 c, .int .i64 m, .int .u64 a, .int .u64 p, .bool (found), .int .i64 tail, .int .i64 cyc] 67)).alloc (.cells #[.int .i64 0, .int .i64 0, .int .i64 0, .int .i64 0, .int .u64 0, .int .u64 0, .bool false, .int .i64 0, .int .i64 0] 67)
  replace hX := (Blk.new w [.int .i64 (20), .int .i64 j, .int .i64 c, .int .i64 m, .int .u64 a, .int .u64 p, .bool (found), .int .i64 tail, .int .i64 cyc] 67).alloc (.cells #[.int .i64 0, .int .i64 0, .int .i64 0, .int .i64 0, .int .u64 0, .int .u64 0, .bool false, .int .i64 0, .int .i64 0] 67)
  replace hR := Blk.new (w.alloc (.cells #[.int .i64 (20), .int .i64 j, .int .i64 c, .int .i64 m, .int .u64 a, .int .u64 p, .bool (found), .int .i64 tail, .int .i64 cyc] 67)) [.int .i64 0, .int .i64 0, .int .i64 0, .int .i64 0, .int .u64 0, .int .u64 0, .bool false, .int .i64 0, .int .i64 0] 67
  simp only [World.size_alloc] at hR
  replace hFF := ((Fr.refl [h, db] w).alloc (.cells #[.int .i64 (20), .int .i64 j, .int .i64 c, .int .i64 m, .int .u64 a, .int .u64 p, .bool (found), .int .i64 tail, .int .i64 cyc] 67)).alloc (.cells #[.int .i64 0, .int .i64 0, .int .i64 0, .int .i64 0, .int .u64 0, .int .u64 0, .bool false, .int .i64 0, .int .i64 0] 67)
  have a1 : h ≠ w.heap.size := by omega
  have a2 : db ≠ w.heap.size := by omega
  have a3 : ab ≠ w.heap.size := by omega
  have b1 : h ≠ w.heap.size + 1 := by omega
  have b2 : db ≠ w.heap.size + 1 := by omega
  have b3 : ab ≠ w.heap.size + 1 := by omega
  have d1 : ¬ w.heap.size = h := by omega
  have d2 : ¬ w.heap.size = db := by omega
  have d3 : ¬ w.heap.size + 1 = h := by omega
  have d4 : ¬ w.heap.size + 1 = db := by omega
  have hcw : IntKind.i64.wrap (c + 1) = c + 1 := w64 _ (by omega)
  have hyw : IntKind.i64.wrap (cyc + 1) = cyc + 1 := w64 _ (by omega)
  have hrr := H.right
  have hcb := cellW_bd c
  have hcb0 := hcb.1
  have hcb1 := hcb.2
  clear hcb
  go_enter Try.func34, Try.ntmps34
  go_wp2_with fail
  replace HH := HH.drew
  replace hX := hX.drew
  replace hR := hR.drew
  replace hFF := hFF.drew
  replace kX := hX.cell
  replace fX := hX.free
  replace kR := hR.cell
  replace fR := hR.free
  replace kH := HH.cellsC (c := s.c) rfl
  go_region_held3 (fun w' => w'.cell? ⟨w.heap.size, 2, none⟩ = some (.int .i64 (c)) ∧ w'.cell? ⟨h, 1, none⟩ = some (.int .i64 s.c.cells) ∧ w'.cell? ⟨h, 2, none⟩ = some (.int .i64 s.c.muts) ∧ w'.cell? ⟨h, 3, none⟩ = some (.int .i64 s.c.regs) ∧ w'.cell? ⟨h, 4, none⟩ = some (.int .i64 s.c.globs)) (go_keep)
    (first | (go_at_call 105; refine (colour_any hrr _ _).mono ?_; rintro e w2 ⟨rfl, hF2⟩; (replace HH := HH.kept0 hF2); (replace hX := hX.kept hF2 (by simp)); (replace hR := hR.kept hF2 (by simp)); (replace hFF := hFF.trans (hF2.mono (by simp))); (replace kX := hX.cell); (replace fX := hX.free); (replace kR := hR.cell); (replace fR := hR.free); (replace kH := HH.cellsC (c := s.c) rfl)) | (go_at_call 101; refine (hload_any HH _).mono ?_; rintro e w2 ⟨rfl, HH, hF2⟩; (replace hX := hX.kept hF2 hXn); (replace hR := hR.kept hF2 hRn); (replace hFF := hFF.trans hF2); (replace kX := hX.cell); (replace fX := hX.free); (replace kR := hR.cell); (replace fR := hR.free); (replace kH := HH.cellsC (c := s.c) rfl)))
  go_wp2_with fail
  refine bodyPost_ret (v := .tuple #[.agg #[.int .i64 (21), .int .i64 j, .int .i64 c, .int .i64 m, .int .u64 a, .int .u64 p, .bool (found), .int .i64 tail, .int .i64 cyc], .int .i64 0, .bool true]) (by simp [results, Try.results34, go_sem, kX, kR]) rfl ⟨rfl, ?_, ?_⟩
  · repeat (first | with_reducible exact HH | with_reducible refine HAt.other ?_ a1 a3 a2 _ | with_reducible refine HAt.other ?_ b1 b3 b2 _)
  · repeat (first | with_reducible exact hFF | with_reducible refine Fr.setNew ?_ (Nat.le_refl _) _ | with_reducible refine Fr.setNew ?_ (Nat.le_succ _) _)

set_option maxRecDepth 100000 in
set_option maxHeartbeats 4000000 in
theorem sw20b {w : World} {h ab db : Nat} {s : HS} (H : HAt w h ab db s)  (j c m a p tail cyc : Int) (found : Bool) (hc : -1000000 ≤ c ∧ c ≤ 1000000) (hy : -1000000 ≤ cyc ∧ cyc ≤ 1000000) (ht : -1000000 ≤ tail ∧ tail ≤ 1000000) (hw : (wAt s.ws (s.c.cellP 2 c)) = 2) :
    Calls Try.prog 34 #[.pointer (some ⟨h, 0, none⟩), .agg #[.int .i64 (20), .int .i64 j, .int .i64 c, .int .i64 m, .int .u64 a, .int .u64 p, .bool (found), .int .i64 tail, .int .i64 cyc]] w fun e w' => e = .returned (.tuple #[.agg #[.int .i64 (24), .int .i64 j, .int .i64 c, .int .i64 m, .int .u64 a, .int .u64 p, .bool (found), .int .i64 tail, .int .i64 cyc], .int .i64 0, .bool true]) ∧ (HAt w' h ab db (s.doIt (aLoad (s.c.cellP 2 c))) ∧ Fr [h, db] w w') := by
  have n0 := H.blk.lt
  have n1 := H.ar.dat.lt
  have n2 := H.ar.hdr.lt
  have hXn : w.heap.size ∉ [h, db] := by simp; omega
  have hRn : w.heap.size + 1 ∉ [h, db] := by simp; omega
  replace HH := (H.alloc (.cells #[.int .i64 (20), .int .i64 j, .int .i64 c, .int .i64 m, .int .u64 a, .int .u64 p, .bool (found), .int .i64 tail, .int .i64 cyc] 67)).alloc (.cells #[.int .i64 0, .int .i64 0, .int .i64 0, .int .i64 0, .int .u64 0, .int .u64 0, .bool false, .int .i64 0, .int .i64 0] 67)
  replace hX := (Blk.new w [.int .i64 (20), .int .i64 j, .int .i64 c, .int .i64 m, .int .u64 a, .int .u64 p, .bool (found), .int .i64 tail, .int .i64 cyc] 67).alloc (.cells #[.int .i64 0, .int .i64 0, .int .i64 0, .int .i64 0, .int .u64 0, .int .u64 0, .bool false, .int .i64 0, .int .i64 0] 67)
  replace hR := Blk.new (w.alloc (.cells #[.int .i64 (20), .int .i64 j, .int .i64 c, .int .i64 m, .int .u64 a, .int .u64 p, .bool (found), .int .i64 tail, .int .i64 cyc] 67)) [.int .i64 0, .int .i64 0, .int .i64 0, .int .i64 0, .int .u64 0, .int .u64 0, .bool false, .int .i64 0, .int .i64 0] 67
  simp only [World.size_alloc] at hR
  replace hFF := ((Fr.refl [h, db] w).alloc (.cells #[.int .i64 (20), .int .i64 j, .int .i64 c, .int .i64 m, .int .u64 a, .int .u64 p, .bool (found), .int .i64 tail, .int .i64 cyc] 67)).alloc (.cells #[.int .i64 0, .int .i64 0, .int .i64 0, .int .i64 0, .int .u64 0, .int .u64 0, .bool false, .int .i64 0, .int .i64 0] 67)
  have a1 : h ≠ w.heap.size := by omega
  have a2 : db ≠ w.heap.size := by omega
  have a3 : ab ≠ w.heap.size := by omega
  have b1 : h ≠ w.heap.size + 1 := by omega
  have b2 : db ≠ w.heap.size + 1 := by omega
  have b3 : ab ≠ w.heap.size + 1 := by omega
  have d1 : ¬ w.heap.size = h := by omega
  have d2 : ¬ w.heap.size = db := by omega
  have d3 : ¬ w.heap.size + 1 = h := by omega
  have d4 : ¬ w.heap.size + 1 = db := by omega
  have hcw : IntKind.i64.wrap (c + 1) = c + 1 := w64 _ (by omega)
  have hyw : IntKind.i64.wrap (cyc + 1) = cyc + 1 := w64 _ (by omega)
  have hrr := H.right
  have hcb := cellW_bd c
  have hcb0 := hcb.1
  have hcb1 := hcb.2
  clear hcb
  go_enter Try.func34, Try.ntmps34
  go_wp2_with fail
  replace HH := HH.drew
  replace hX := hX.drew
  replace hR := hR.drew
  replace hFF := hFF.drew
  replace kX := hX.cell
  replace fX := hX.free
  replace kR := hR.cell
  replace fR := hR.free
  replace kH := HH.cellsC (c := s.c) rfl
  go_region_held3 (fun w' => w'.cell? ⟨w.heap.size, 2, none⟩ = some (.int .i64 (c)) ∧ w'.cell? ⟨h, 1, none⟩ = some (.int .i64 s.c.cells) ∧ w'.cell? ⟨h, 2, none⟩ = some (.int .i64 s.c.muts) ∧ w'.cell? ⟨h, 3, none⟩ = some (.int .i64 s.c.regs) ∧ w'.cell? ⟨h, 4, none⟩ = some (.int .i64 s.c.globs)) (go_keep)
    (first | (go_at_call 105; refine (colour_any hrr _ _).mono ?_; rintro e w2 ⟨rfl, hF2⟩; (replace HH := HH.kept0 hF2); (replace hX := hX.kept hF2 (by simp)); (replace hR := hR.kept hF2 (by simp)); (replace hFF := hFF.trans (hF2.mono (by simp))); (replace kX := hX.cell); (replace fX := hX.free); (replace kR := hR.cell); (replace fR := hR.free); (replace kH := HH.cellsC (c := s.c) rfl)) | (go_at_call 101; refine (hload_any HH _).mono ?_; rintro e w2 ⟨rfl, HH, hF2⟩; (replace hX := hX.kept hF2 hXn); (replace hR := hR.kept hF2 hRn); (replace hFF := hFF.trans hF2); (replace kX := hX.cell); (replace fX := hX.free); (replace kR := hR.cell); (replace fR := hR.free); (replace kH := HH.cellsC (c := s.c) rfl)))
  go_wp2_with fail
  refine bodyPost_ret (v := .tuple #[.agg #[.int .i64 (24), .int .i64 j, .int .i64 c, .int .i64 m, .int .u64 a, .int .u64 p, .bool (found), .int .i64 tail, .int .i64 cyc], .int .i64 0, .bool true]) (by simp [results, Try.results34, go_sem, kX, kR]) rfl ⟨rfl, ?_, ?_⟩
  · repeat (first | with_reducible exact HH | with_reducible refine HAt.other ?_ a1 a3 a2 _ | with_reducible refine HAt.other ?_ b1 b3 b2 _)
  · repeat (first | with_reducible exact hFF | with_reducible refine Fr.setNew ?_ (Nat.le_refl _) _ | with_reducible refine Fr.setNew ?_ (Nat.le_succ _) _)

set_option maxRecDepth 100000 in
set_option maxHeartbeats 4000000 in
theorem sw21 {w : World} {h ab db : Nat} {s : HS} (H : HAt w h ab db s)  (j c m a p tail cyc : Int) (found : Bool) (hc : -1000000 ≤ c ∧ c ≤ 1000000) (hy : -1000000 ≤ cyc ∧ cyc ≤ 1000000) (ht : -1000000 ≤ tail ∧ tail ≤ 1000000)  :
    Calls Try.prog 34 #[.pointer (some ⟨h, 0, none⟩), .agg #[.int .i64 (21), .int .i64 j, .int .i64 c, .int .i64 m, .int .u64 a, .int .u64 p, .bool (found), .int .i64 tail, .int .i64 cyc]] w fun e w' => e = .returned (.tuple #[.agg #[.int .i64 (22), .int .i64 j, .int .i64 c, .int .i64 m, .int .u64 a, .int .u64 p, .bool (found), .int .i64 tail, .int .i64 cyc], .int .i64 0, .bool true]) ∧ (HAt w' h ab db (s.doIt (aStore (s.c.cellP 0 c) 0)) ∧ Fr [h, db] w w') := by
  have n0 := H.blk.lt
  have n1 := H.ar.dat.lt
  have n2 := H.ar.hdr.lt
  have hXn : w.heap.size ∉ [h, db] := by simp; omega
  have hRn : w.heap.size + 1 ∉ [h, db] := by simp; omega
  replace HH := (H.alloc (.cells #[.int .i64 (21), .int .i64 j, .int .i64 c, .int .i64 m, .int .u64 a, .int .u64 p, .bool (found), .int .i64 tail, .int .i64 cyc] 67)).alloc (.cells #[.int .i64 0, .int .i64 0, .int .i64 0, .int .i64 0, .int .u64 0, .int .u64 0, .bool false, .int .i64 0, .int .i64 0] 67)
  replace hX := (Blk.new w [.int .i64 (21), .int .i64 j, .int .i64 c, .int .i64 m, .int .u64 a, .int .u64 p, .bool (found), .int .i64 tail, .int .i64 cyc] 67).alloc (.cells #[.int .i64 0, .int .i64 0, .int .i64 0, .int .i64 0, .int .u64 0, .int .u64 0, .bool false, .int .i64 0, .int .i64 0] 67)
  replace hR := Blk.new (w.alloc (.cells #[.int .i64 (21), .int .i64 j, .int .i64 c, .int .i64 m, .int .u64 a, .int .u64 p, .bool (found), .int .i64 tail, .int .i64 cyc] 67)) [.int .i64 0, .int .i64 0, .int .i64 0, .int .i64 0, .int .u64 0, .int .u64 0, .bool false, .int .i64 0, .int .i64 0] 67
  simp only [World.size_alloc] at hR
  replace hFF := ((Fr.refl [h, db] w).alloc (.cells #[.int .i64 (21), .int .i64 j, .int .i64 c, .int .i64 m, .int .u64 a, .int .u64 p, .bool (found), .int .i64 tail, .int .i64 cyc] 67)).alloc (.cells #[.int .i64 0, .int .i64 0, .int .i64 0, .int .i64 0, .int .u64 0, .int .u64 0, .bool false, .int .i64 0, .int .i64 0] 67)
  have a1 : h ≠ w.heap.size := by omega
  have a2 : db ≠ w.heap.size := by omega
  have a3 : ab ≠ w.heap.size := by omega
  have b1 : h ≠ w.heap.size + 1 := by omega
  have b2 : db ≠ w.heap.size + 1 := by omega
  have b3 : ab ≠ w.heap.size + 1 := by omega
  have d1 : ¬ w.heap.size = h := by omega
  have d2 : ¬ w.heap.size = db := by omega
  have d3 : ¬ w.heap.size + 1 = h := by omega
  have d4 : ¬ w.heap.size + 1 = db := by omega
  have hcw : IntKind.i64.wrap (c + 1) = c + 1 := w64 _ (by omega)
  have hyw : IntKind.i64.wrap (cyc + 1) = cyc + 1 := w64 _ (by omega)
  have hrr := H.right
  have hcb := cellW_bd c
  have hcb0 := hcb.1
  have hcb1 := hcb.2
  clear hcb
  go_enter Try.func34, Try.ntmps34
  go_wp2_with fail
  replace HH := HH.drew
  replace hX := hX.drew
  replace hR := hR.drew
  replace hFF := hFF.drew
  replace kX := hX.cell
  replace fX := hX.free
  replace kR := hR.cell
  replace fR := hR.free
  replace kH := HH.cellsC (c := s.c) rfl
  go_region_held3 (fun w' => w'.cell? ⟨w.heap.size, 2, none⟩ = some (.int .i64 (c)) ∧ w'.cell? ⟨h, 1, none⟩ = some (.int .i64 s.c.cells) ∧ w'.cell? ⟨h, 2, none⟩ = some (.int .i64 s.c.muts) ∧ w'.cell? ⟨h, 3, none⟩ = some (.int .i64 s.c.regs) ∧ w'.cell? ⟨h, 4, none⟩ = some (.int .i64 s.c.globs)) (go_keep)
    (first | (go_at_call 106; refine (car_any hrr _ _).mono ?_; rintro e w2 ⟨rfl, hF2⟩; (replace HH := HH.kept0 hF2); (replace hX := hX.kept hF2 (by simp)); (replace hR := hR.kept hF2 (by simp)); (replace hFF := hFF.trans (hF2.mono (by simp))); (replace kX := hX.cell); (replace fX := hX.free); (replace kR := hR.cell); (replace fR := hR.free); (replace kH := HH.cellsC (c := s.c) rfl)) | (go_at_call 103; refine (hstore_any HH _ _ (by omega)).mono ?_; rintro e w2 ⟨rfl, HH, hF2⟩; (replace hX := hX.kept hF2 hXn); (replace hR := hR.kept hF2 hRn); (replace hFF := hFF.trans hF2); (replace kX := hX.cell); (replace fX := hX.free); (replace kR := hR.cell); (replace fR := hR.free); (replace kH := HH.cellsC (c := s.c) rfl)))
  go_wp2_with fail
  refine bodyPost_ret (v := .tuple #[.agg #[.int .i64 (22), .int .i64 j, .int .i64 c, .int .i64 m, .int .u64 a, .int .u64 p, .bool (found), .int .i64 tail, .int .i64 cyc], .int .i64 0, .bool true]) (by simp [results, Try.results34, go_sem, kX, kR]) rfl ⟨rfl, ?_, ?_⟩
  · repeat (first | with_reducible exact HH | with_reducible refine HAt.other ?_ a1 a3 a2 _ | with_reducible refine HAt.other ?_ b1 b3 b2 _)
  · repeat (first | with_reducible exact hFF | with_reducible refine Fr.setNew ?_ (Nat.le_refl _) _ | with_reducible refine Fr.setNew ?_ (Nat.le_succ _) _)

set_option maxRecDepth 100000 in
set_option maxHeartbeats 4000000 in
theorem sw22 {w : World} {h ab db : Nat} {s : HS} (H : HAt w h ab db s)  (j c m a p tail cyc : Int) (found : Bool) (hc : -1000000 ≤ c ∧ c ≤ 1000000) (hy : -1000000 ≤ cyc ∧ cyc ≤ 1000000) (ht : -1000000 ≤ tail ∧ tail ≤ 1000000)  :
    Calls Try.prog 34 #[.pointer (some ⟨h, 0, none⟩), .agg #[.int .i64 (22), .int .i64 j, .int .i64 c, .int .i64 m, .int .u64 a, .int .u64 p, .bool (found), .int .i64 tail, .int .i64 cyc]] w fun e w' => e = .returned (.tuple #[.agg #[.int .i64 (23), .int .i64 j, .int .i64 c, .int .i64 m, .int .u64 a, .int .u64 p, .bool (found), .int .i64 tail, .int .i64 cyc], .int .i64 0, .bool true]) ∧ (HAt w' h ab db (s.doIt (aStore (s.c.cellP 1 c) 0)) ∧ Fr [h, db] w w') := by
  have n0 := H.blk.lt
  have n1 := H.ar.dat.lt
  have n2 := H.ar.hdr.lt
  have hXn : w.heap.size ∉ [h, db] := by simp; omega
  have hRn : w.heap.size + 1 ∉ [h, db] := by simp; omega
  replace HH := (H.alloc (.cells #[.int .i64 (22), .int .i64 j, .int .i64 c, .int .i64 m, .int .u64 a, .int .u64 p, .bool (found), .int .i64 tail, .int .i64 cyc] 67)).alloc (.cells #[.int .i64 0, .int .i64 0, .int .i64 0, .int .i64 0, .int .u64 0, .int .u64 0, .bool false, .int .i64 0, .int .i64 0] 67)
  replace hX := (Blk.new w [.int .i64 (22), .int .i64 j, .int .i64 c, .int .i64 m, .int .u64 a, .int .u64 p, .bool (found), .int .i64 tail, .int .i64 cyc] 67).alloc (.cells #[.int .i64 0, .int .i64 0, .int .i64 0, .int .i64 0, .int .u64 0, .int .u64 0, .bool false, .int .i64 0, .int .i64 0] 67)
  replace hR := Blk.new (w.alloc (.cells #[.int .i64 (22), .int .i64 j, .int .i64 c, .int .i64 m, .int .u64 a, .int .u64 p, .bool (found), .int .i64 tail, .int .i64 cyc] 67)) [.int .i64 0, .int .i64 0, .int .i64 0, .int .i64 0, .int .u64 0, .int .u64 0, .bool false, .int .i64 0, .int .i64 0] 67
  simp only [World.size_alloc] at hR
  replace hFF := ((Fr.refl [h, db] w).alloc (.cells #[.int .i64 (22), .int .i64 j, .int .i64 c, .int .i64 m, .int .u64 a, .int .u64 p, .bool (found), .int .i64 tail, .int .i64 cyc] 67)).alloc (.cells #[.int .i64 0, .int .i64 0, .int .i64 0, .int .i64 0, .int .u64 0, .int .u64 0, .bool false, .int .i64 0, .int .i64 0] 67)
  have a1 : h ≠ w.heap.size := by omega
  have a2 : db ≠ w.heap.size := by omega
  have a3 : ab ≠ w.heap.size := by omega
  have b1 : h ≠ w.heap.size + 1 := by omega
  have b2 : db ≠ w.heap.size + 1 := by omega
  have b3 : ab ≠ w.heap.size + 1 := by omega
  have d1 : ¬ w.heap.size = h := by omega
  have d2 : ¬ w.heap.size = db := by omega
  have d3 : ¬ w.heap.size + 1 = h := by omega
  have d4 : ¬ w.heap.size + 1 = db := by omega
  have hcw : IntKind.i64.wrap (c + 1) = c + 1 := w64 _ (by omega)
  have hyw : IntKind.i64.wrap (cyc + 1) = cyc + 1 := w64 _ (by omega)
  have hrr := H.right
  have hcb := cellW_bd c
  have hcb0 := hcb.1
  have hcb1 := hcb.2
  clear hcb
  go_enter Try.func34, Try.ntmps34
  go_wp2_with fail
  replace HH := HH.drew
  replace hX := hX.drew
  replace hR := hR.drew
  replace hFF := hFF.drew
  replace kX := hX.cell
  replace fX := hX.free
  replace kR := hR.cell
  replace fR := hR.free
  replace kH := HH.cellsC (c := s.c) rfl
  go_region_held3 (fun w' => w'.cell? ⟨w.heap.size, 2, none⟩ = some (.int .i64 (c)) ∧ w'.cell? ⟨h, 1, none⟩ = some (.int .i64 s.c.cells) ∧ w'.cell? ⟨h, 2, none⟩ = some (.int .i64 s.c.muts) ∧ w'.cell? ⟨h, 3, none⟩ = some (.int .i64 s.c.regs) ∧ w'.cell? ⟨h, 4, none⟩ = some (.int .i64 s.c.globs)) (go_keep)
    (first | (go_at_call 104; refine (cdr_any hrr _ _).mono ?_; rintro e w2 ⟨rfl, hF2⟩; (replace HH := HH.kept0 hF2); (replace hX := hX.kept hF2 (by simp)); (replace hR := hR.kept hF2 (by simp)); (replace hFF := hFF.trans (hF2.mono (by simp))); (replace kX := hX.cell); (replace fX := hX.free); (replace kR := hR.cell); (replace fR := hR.free); (replace kH := HH.cellsC (c := s.c) rfl)) | (go_at_call 103; refine (hstore_any HH _ _ (by omega)).mono ?_; rintro e w2 ⟨rfl, HH, hF2⟩; (replace hX := hX.kept hF2 hXn); (replace hR := hR.kept hF2 hRn); (replace hFF := hFF.trans hF2); (replace kX := hX.cell); (replace fX := hX.free); (replace kR := hR.cell); (replace fR := hR.free); (replace kH := HH.cellsC (c := s.c) rfl)))
  go_wp2_with fail
  refine bodyPost_ret (v := .tuple #[.agg #[.int .i64 (23), .int .i64 j, .int .i64 c, .int .i64 m, .int .u64 a, .int .u64 p, .bool (found), .int .i64 tail, .int .i64 cyc], .int .i64 0, .bool true]) (by simp [results, Try.results34, go_sem, kX, kR]) rfl ⟨rfl, ?_, ?_⟩
  · repeat (first | with_reducible exact HH | with_reducible refine HAt.other ?_ a1 a3 a2 _ | with_reducible refine HAt.other ?_ b1 b3 b2 _)
  · repeat (first | with_reducible exact hFF | with_reducible refine Fr.setNew ?_ (Nat.le_refl _) _ | with_reducible refine Fr.setNew ?_ (Nat.le_succ _) _)

set_option maxRecDepth 100000 in
set_option maxHeartbeats 4000000 in
theorem sw20ga {w : World} {h ab db : Nat} {s : HS} (H : HAt w h ab db s)  (j c m a p tail cyc : Int) (found : Bool) (hc : -1000000 ≤ c ∧ c ≤ 1000000) (hy : -1000000 ≤ cyc ∧ cyc ≤ 1000000) (ht : -1000000 ≤ tail ∧ tail ≤ 1000000) (hw0 : ¬ (wAt s.ws (s.c.cellP 2 c)) = 0) (hw2 : ¬ (wAt s.ws (s.c.cellP 2 c)) = 2) (hl : c + 1 < s.c.cells) :
    Calls Try.prog 34 #[.pointer (some ⟨h, 0, none⟩), .agg #[.int .i64 (20), .int .i64 j, .int .i64 c, .int .i64 m, .int .u64 a, .int .u64 p, .bool (found), .int .i64 tail, .int .i64 cyc]] w fun e w' => e = .returned (.tuple #[.agg #[.int .i64 (20), .int .i64 j, .int .i64 ((c + 1)), .int .i64 m, .int .u64 a, .int .u64 p, .bool (found), .int .i64 tail, .int .i64 cyc], .int .i64 0, .bool true]) ∧ (HAt w' h ab db (s.doIt (aLoad (s.c.cellP 2 c))) ∧ Fr [h, db] w w') := by
  have n0 := H.blk.lt
  have n1 := H.ar.dat.lt
  have n2 := H.ar.hdr.lt
  have hXn : w.heap.size ∉ [h, db] := by simp; omega
  have hRn : w.heap.size + 1 ∉ [h, db] := by simp; omega
  replace HH := (H.alloc (.cells #[.int .i64 (20), .int .i64 j, .int .i64 c, .int .i64 m, .int .u64 a, .int .u64 p, .bool (found), .int .i64 tail, .int .i64 cyc] 67)).alloc (.cells #[.int .i64 0, .int .i64 0, .int .i64 0, .int .i64 0, .int .u64 0, .int .u64 0, .bool false, .int .i64 0, .int .i64 0] 67)
  replace hX := (Blk.new w [.int .i64 (20), .int .i64 j, .int .i64 c, .int .i64 m, .int .u64 a, .int .u64 p, .bool (found), .int .i64 tail, .int .i64 cyc] 67).alloc (.cells #[.int .i64 0, .int .i64 0, .int .i64 0, .int .i64 0, .int .u64 0, .int .u64 0, .bool false, .int .i64 0, .int .i64 0] 67)
  replace hR := Blk.new (w.alloc (.cells #[.int .i64 (20), .int .i64 j, .int .i64 c, .int .i64 m, .int .u64 a, .int .u64 p, .bool (found), .int .i64 tail, .int .i64 cyc] 67)) [.int .i64 0, .int .i64 0, .int .i64 0, .int .i64 0, .int .u64 0, .int .u64 0, .bool false, .int .i64 0, .int .i64 0] 67
  simp only [World.size_alloc] at hR
  replace hFF := ((Fr.refl [h, db] w).alloc (.cells #[.int .i64 (20), .int .i64 j, .int .i64 c, .int .i64 m, .int .u64 a, .int .u64 p, .bool (found), .int .i64 tail, .int .i64 cyc] 67)).alloc (.cells #[.int .i64 0, .int .i64 0, .int .i64 0, .int .i64 0, .int .u64 0, .int .u64 0, .bool false, .int .i64 0, .int .i64 0] 67)
  have a1 : h ≠ w.heap.size := by omega
  have a2 : db ≠ w.heap.size := by omega
  have a3 : ab ≠ w.heap.size := by omega
  have b1 : h ≠ w.heap.size + 1 := by omega
  have b2 : db ≠ w.heap.size + 1 := by omega
  have b3 : ab ≠ w.heap.size + 1 := by omega
  have d1 : ¬ w.heap.size = h := by omega
  have d2 : ¬ w.heap.size = db := by omega
  have d3 : ¬ w.heap.size + 1 = h := by omega
  have d4 : ¬ w.heap.size + 1 = db := by omega
  have hcw : IntKind.i64.wrap (c + 1) = c + 1 := w64 _ (by omega)
  have hyw : IntKind.i64.wrap (cyc + 1) = cyc + 1 := w64 _ (by omega)
  have hrr := H.right
  have hcb := cellW_bd c
  have hcb0 := hcb.1
  have hcb1 := hcb.2
  clear hcb
  have g0 : ((wAt s.ws (s.c.cellP 2 c)) == 0) = false := beq_eq_false_iff_ne.2 hw0
  have g2 : ((wAt s.ws (s.c.cellP 2 c)) == 2) = false := beq_eq_false_iff_ne.2 hw2
  go_enter Try.func34, Try.ntmps34
  go_wp2_with fail
  replace HH := HH.drew
  replace hX := hX.drew
  replace hR := hR.drew
  replace hFF := hFF.drew
  replace kX := hX.cell
  replace fX := hX.free
  replace kR := hR.cell
  replace fR := hR.free
  replace kH := HH.cellsC (c := s.c) rfl
  go_region_held3 (fun w' => w'.cell? ⟨w.heap.size, 2, none⟩ = some (.int .i64 (c)) ∧ w'.cell? ⟨h, 1, none⟩ = some (.int .i64 s.c.cells) ∧ w'.cell? ⟨h, 2, none⟩ = some (.int .i64 s.c.muts) ∧ w'.cell? ⟨h, 3, none⟩ = some (.int .i64 s.c.regs) ∧ w'.cell? ⟨h, 4, none⟩ = some (.int .i64 s.c.globs)) (go_keep)
    (first | (go_at_call 105; refine (colour_any hrr _ _).mono ?_; rintro e w2 ⟨rfl, hF2⟩; (replace HH := HH.kept0 hF2); (replace hX := hX.kept hF2 (by simp)); (replace hR := hR.kept hF2 (by simp)); (replace hFF := hFF.trans (hF2.mono (by simp))); (replace kX := hX.cell); (replace fX := hX.free); (replace kR := hR.cell); (replace fR := hR.free); (replace kH := HH.cellsC (c := s.c) rfl)) | (go_at_call 101; refine (hload_any HH _).mono ?_; rintro e w2 ⟨rfl, HH, hF2⟩; (replace hX := hX.kept hF2 hXn); (replace hR := hR.kept hF2 hRn); (replace hFF := hFF.trans hF2); (replace kX := hX.cell); (replace fX := hX.free); (replace kR := hR.cell); (replace fR := hR.free); (replace kH := HH.cellsC (c := s.c) rfl)))
  go_wp2_with fail
  replace hX := ((hX.set 2 (.int .i64 (c + 1))).set 0 (.int .i64 20))
  simp only [List.set_cons_zero, List.set_cons_succ] at hX
  replace HH := ((HH.other (p := ⟨w.heap.size, 2, none⟩) a1 a3 a2 (.int .i64 (c + 1))).other (p := ⟨w.heap.size, 0, none⟩) a1 a3 a2 (.int .i64 20))
  replace hR := ((hR.other (p := ⟨w.heap.size, 2, none⟩) (Nat.succ_ne_self _) (.int .i64 (c + 1))).other (p := ⟨w.heap.size, 0, none⟩) (Nat.succ_ne_self _) (.int .i64 20))
  replace hFF := ((hFF.setNew (p := ⟨w.heap.size, 2, none⟩) (Nat.le_refl _) (.int .i64 (c + 1))).setNew (p := ⟨w.heap.size, 0, none⟩) (Nat.le_refl _) (.int .i64 20))
  replace kX := hX.cell
  replace fX := hX.free
  replace kR := hR.cell
  replace fR := hR.free
  replace kH := HH.cellsC (c := s.c) rfl
  have HHu := HH
  have hFFu := hFF
  have kXu := hX.cell
  have fXu := hX.free
  have kRu := hR.cell
  have fRu := hR.free
  replace HH := HH.drew
  replace hX := hX.drew
  replace hR := hR.drew
  replace hFF := hFF.drew
  replace kX := hX.cell
  replace fX := hX.free
  replace kR := hR.cell
  replace fR := hR.free
  replace kH := HH.cellsC (c := s.c) rfl
  go_region_held3 (fun w' => w'.cell? ⟨w.heap.size, 2, none⟩ = some (.int .i64 (c + 1)) ∧ w'.cell? ⟨h, 1, none⟩ = some (.int .i64 s.c.cells) ∧ w'.cell? ⟨h, 2, none⟩ = some (.int .i64 s.c.muts) ∧ w'.cell? ⟨h, 3, none⟩ = some (.int .i64 s.c.regs) ∧ w'.cell? ⟨h, 4, none⟩ = some (.int .i64 s.c.globs)) (go_keep)
    (first | fail)
  go_wp2_with fail
  refine bodyPost_ret (v := .tuple #[.agg #[.int .i64 (20), .int .i64 j, .int .i64 ((c + 1)), .int .i64 m, .int .u64 a, .int .u64 p, .bool (found), .int .i64 tail, .int .i64 cyc], .int .i64 0, .bool true]) (by simp [results, Try.results34, go_sem, kX, kR, kXu, kRu]) rfl ⟨rfl, ?_, ?_⟩
  · repeat (first | with_reducible exact HH | with_reducible exact HHu | with_reducible refine HAt.drew ?_ | with_reducible refine HAt.other ?_ a1 a3 a2 _ | with_reducible refine HAt.other ?_ b1 b3 b2 _)
  · repeat (first | with_reducible exact hFF | with_reducible exact hFFu | with_reducible refine Fr.drew ?_ | with_reducible refine Fr.setNew ?_ (Nat.le_refl _) _ | with_reducible refine Fr.setNew ?_ (Nat.le_succ _) _)

set_option maxRecDepth 100000 in
set_option maxHeartbeats 4000000 in
theorem sw20gb {w : World} {h ab db : Nat} {s : HS} (H : HAt w h ab db s)  (j c m a p tail cyc : Int) (found : Bool) (hc : -1000000 ≤ c ∧ c ≤ 1000000) (hy : -1000000 ≤ cyc ∧ cyc ≤ 1000000) (ht : -1000000 ≤ tail ∧ tail ≤ 1000000) (hw0 : ¬ (wAt s.ws (s.c.cellP 2 c)) = 0) (hw2 : ¬ (wAt s.ws (s.c.cellP 2 c)) = 2) (hl : ¬ c + 1 < s.c.cells) :
    Calls Try.prog 34 #[.pointer (some ⟨h, 0, none⟩), .agg #[.int .i64 (20), .int .i64 j, .int .i64 c, .int .i64 m, .int .u64 a, .int .u64 p, .bool (found), .int .i64 tail, .int .i64 cyc]] w fun e w' => e = .returned (.tuple #[.agg #[.int .i64 (1), .int .i64 (0), .int .i64 ((c + 1)), .int .i64 m, .int .u64 a, .int .u64 (0), .bool (found), .int .i64 tail, .int .i64 ((cyc + 1))], .int .i64 3, .bool true]) ∧ (HAt w' h ab db (s.doIt (aLoad (s.c.cellP 2 c))) ∧ Fr [h, db] w w') := by
  have n0 := H.blk.lt
  have n1 := H.ar.dat.lt
  have n2 := H.ar.hdr.lt
  have hXn : w.heap.size ∉ [h, db] := by simp; omega
  have hRn : w.heap.size + 1 ∉ [h, db] := by simp; omega
  replace HH := (H.alloc (.cells #[.int .i64 (20), .int .i64 j, .int .i64 c, .int .i64 m, .int .u64 a, .int .u64 p, .bool (found), .int .i64 tail, .int .i64 cyc] 67)).alloc (.cells #[.int .i64 0, .int .i64 0, .int .i64 0, .int .i64 0, .int .u64 0, .int .u64 0, .bool false, .int .i64 0, .int .i64 0] 67)
  replace hX := (Blk.new w [.int .i64 (20), .int .i64 j, .int .i64 c, .int .i64 m, .int .u64 a, .int .u64 p, .bool (found), .int .i64 tail, .int .i64 cyc] 67).alloc (.cells #[.int .i64 0, .int .i64 0, .int .i64 0, .int .i64 0, .int .u64 0, .int .u64 0, .bool false, .int .i64 0, .int .i64 0] 67)
  replace hR := Blk.new (w.alloc (.cells #[.int .i64 (20), .int .i64 j, .int .i64 c, .int .i64 m, .int .u64 a, .int .u64 p, .bool (found), .int .i64 tail, .int .i64 cyc] 67)) [.int .i64 0, .int .i64 0, .int .i64 0, .int .i64 0, .int .u64 0, .int .u64 0, .bool false, .int .i64 0, .int .i64 0] 67
  simp only [World.size_alloc] at hR
  replace hFF := ((Fr.refl [h, db] w).alloc (.cells #[.int .i64 (20), .int .i64 j, .int .i64 c, .int .i64 m, .int .u64 a, .int .u64 p, .bool (found), .int .i64 tail, .int .i64 cyc] 67)).alloc (.cells #[.int .i64 0, .int .i64 0, .int .i64 0, .int .i64 0, .int .u64 0, .int .u64 0, .bool false, .int .i64 0, .int .i64 0] 67)
  have a1 : h ≠ w.heap.size := by omega
  have a2 : db ≠ w.heap.size := by omega
  have a3 : ab ≠ w.heap.size := by omega
  have b1 : h ≠ w.heap.size + 1 := by omega
  have b2 : db ≠ w.heap.size + 1 := by omega
  have b3 : ab ≠ w.heap.size + 1 := by omega
  have d1 : ¬ w.heap.size = h := by omega
  have d2 : ¬ w.heap.size = db := by omega
  have d3 : ¬ w.heap.size + 1 = h := by omega
  have d4 : ¬ w.heap.size + 1 = db := by omega
  have hcw : IntKind.i64.wrap (c + 1) = c + 1 := w64 _ (by omega)
  have hyw : IntKind.i64.wrap (cyc + 1) = cyc + 1 := w64 _ (by omega)
  have hrr := H.right
  have hcb := cellW_bd c
  have hcb0 := hcb.1
  have hcb1 := hcb.2
  clear hcb
  have g0 : ((wAt s.ws (s.c.cellP 2 c)) == 0) = false := beq_eq_false_iff_ne.2 hw0
  have g2 : ((wAt s.ws (s.c.cellP 2 c)) == 2) = false := beq_eq_false_iff_ne.2 hw2
  go_enter Try.func34, Try.ntmps34
  go_wp2_with fail
  replace HH := HH.drew
  replace hX := hX.drew
  replace hR := hR.drew
  replace hFF := hFF.drew
  replace kX := hX.cell
  replace fX := hX.free
  replace kR := hR.cell
  replace fR := hR.free
  replace kH := HH.cellsC (c := s.c) rfl
  go_region_held3 (fun w' => w'.cell? ⟨w.heap.size, 2, none⟩ = some (.int .i64 (c)) ∧ w'.cell? ⟨h, 1, none⟩ = some (.int .i64 s.c.cells) ∧ w'.cell? ⟨h, 2, none⟩ = some (.int .i64 s.c.muts) ∧ w'.cell? ⟨h, 3, none⟩ = some (.int .i64 s.c.regs) ∧ w'.cell? ⟨h, 4, none⟩ = some (.int .i64 s.c.globs)) (go_keep)
    (first | (go_at_call 105; refine (colour_any hrr _ _).mono ?_; rintro e w2 ⟨rfl, hF2⟩; (replace HH := HH.kept0 hF2); (replace hX := hX.kept hF2 (by simp)); (replace hR := hR.kept hF2 (by simp)); (replace hFF := hFF.trans (hF2.mono (by simp))); (replace kX := hX.cell); (replace fX := hX.free); (replace kR := hR.cell); (replace fR := hR.free); (replace kH := HH.cellsC (c := s.c) rfl)) | (go_at_call 101; refine (hload_any HH _).mono ?_; rintro e w2 ⟨rfl, HH, hF2⟩; (replace hX := hX.kept hF2 hXn); (replace hR := hR.kept hF2 hRn); (replace hFF := hFF.trans hF2); (replace kX := hX.cell); (replace fX := hX.free); (replace kR := hR.cell); (replace fR := hR.free); (replace kH := HH.cellsC (c := s.c) rfl)))
  go_wp2_with fail
  replace hX := ((hX.set 2 (.int .i64 (c + 1))).set 0 (.int .i64 20))
  simp only [List.set_cons_zero, List.set_cons_succ] at hX
  replace HH := ((HH.other (p := ⟨w.heap.size, 2, none⟩) a1 a3 a2 (.int .i64 (c + 1))).other (p := ⟨w.heap.size, 0, none⟩) a1 a3 a2 (.int .i64 20))
  replace hR := ((hR.other (p := ⟨w.heap.size, 2, none⟩) (Nat.succ_ne_self _) (.int .i64 (c + 1))).other (p := ⟨w.heap.size, 0, none⟩) (Nat.succ_ne_self _) (.int .i64 20))
  replace hFF := ((hFF.setNew (p := ⟨w.heap.size, 2, none⟩) (Nat.le_refl _) (.int .i64 (c + 1))).setNew (p := ⟨w.heap.size, 0, none⟩) (Nat.le_refl _) (.int .i64 20))
  replace kX := hX.cell
  replace fX := hX.free
  replace kR := hR.cell
  replace fR := hR.free
  replace kH := HH.cellsC (c := s.c) rfl
  have HHu := HH
  have hFFu := hFF
  have kXu := hX.cell
  have fXu := hX.free
  have kRu := hR.cell
  have fRu := hR.free
  replace HH := HH.drew
  replace hX := hX.drew
  replace hR := hR.drew
  replace hFF := hFF.drew
  replace kX := hX.cell
  replace fX := hX.free
  replace kR := hR.cell
  replace fR := hR.free
  replace kH := HH.cellsC (c := s.c) rfl
  go_region_held3 (fun w' => w'.cell? ⟨w.heap.size, 2, none⟩ = some (.int .i64 (c + 1)) ∧ w'.cell? ⟨h, 1, none⟩ = some (.int .i64 s.c.cells) ∧ w'.cell? ⟨h, 2, none⟩ = some (.int .i64 s.c.muts) ∧ w'.cell? ⟨h, 3, none⟩ = some (.int .i64 s.c.regs) ∧ w'.cell? ⟨h, 4, none⟩ = some (.int .i64 s.c.globs)) (go_keep)
    (first | fail)
  go_wp2_with (first | (go_at_call 108; refine (rbegin15_any _ _ _ _ _ _ _ _ _ _).mono ?_; rintro e w9 ⟨rfl, hF2⟩; (replace hX := hX.set 8 (.int .i64 (cyc + 1))); simp only [List.set_cons_zero, List.set_cons_succ] at hX; (replace hX := hX.kept hF2 (by simp)); (replace HH := (HH.other (p := ⟨w.heap.size, 8, none⟩) a1 a3 a2 (.int .i64 (cyc + 1))).kept0 hF2); (replace hR := (hR.other (p := ⟨w.heap.size, 8, none⟩) (Nat.succ_ne_self _) (.int .i64 (cyc + 1))).kept hF2 (by simp)); (replace hFF := (hFF.setNew (p := ⟨w.heap.size, 8, none⟩) (Nat.le_refl _) (.int .i64 (cyc + 1))).trans (hF2.mono (by simp))); (replace kX := hX.cell); (replace fX := hX.free); (replace kR := hR.cell); (replace fR := hR.free)))
  refine bodyPost_ret (v := .tuple #[.agg #[.int .i64 (1), .int .i64 (0), .int .i64 ((c + 1)), .int .i64 m, .int .u64 a, .int .u64 (0), .bool (found), .int .i64 tail, .int .i64 ((cyc + 1))], .int .i64 3, .bool true]) (by simp [results, Try.results34, go_sem, kX, kR, kXu, kRu]) rfl ⟨rfl, ?_, ?_⟩
  · repeat (first | with_reducible exact HH | with_reducible exact HHu | with_reducible refine HAt.drew ?_ | with_reducible refine HAt.other ?_ a1 a3 a2 _ | with_reducible refine HAt.other ?_ b1 b3 b2 _)
  · repeat (first | with_reducible exact hFF | with_reducible exact hFFu | with_reducible refine Fr.drew ?_ | with_reducible refine Fr.setNew ?_ (Nat.le_refl _) _ | with_reducible refine Fr.setNew ?_ (Nat.le_succ _) _)

set_option maxRecDepth 100000 in
set_option maxHeartbeats 4000000 in
theorem sw23a {w : World} {h ab db : Nat} {s : HS} (H : HAt w h ab db s)  (j c m a p tail cyc : Int) (found : Bool) (hc : -1000000 ≤ c ∧ c ≤ 1000000) (hy : -1000000 ≤ cyc ∧ cyc ≤ 1000000) (ht : -1000000 ≤ tail ∧ tail ≤ 1000000) (hl : c + 1 < s.c.cells) :
    Calls Try.prog 34 #[.pointer (some ⟨h, 0, none⟩), .agg #[.int .i64 (23), .int .i64 j, .int .i64 c, .int .i64 m, .int .u64 a, .int .u64 p, .bool (found), .int .i64 tail, .int .i64 cyc]] w fun e w' => e = .returned (.tuple #[.agg #[.int .i64 (20), .int .i64 j, .int .i64 ((c + 1)), .int .i64 m, .int .u64 a, .int .u64 p, .bool (found), .int .i64 c, .int .i64 cyc], .int .i64 2, .bool true]) ∧ (HAt w' h ab db (s.doIt (aStore (s.c.cellP 1 tail) (cellW c))) ∧ Fr [h, db] w w') := by
  have n0 := H.blk.lt
  have n1 := H.ar.dat.lt
  have n2 := H.ar.hdr.lt
  have hXn : w.heap.size ∉ [h, db] := by simp; omega
  have hRn : w.heap.size + 1 ∉ [h, db] := by simp; omega
  replace HH := (H.alloc (.cells #[.int .i64 (23), .int .i64 j, .int .i64 c, .int .i64 m, .int .u64 a, .int .u64 p, .bool (found), .int .i64 tail, .int .i64 cyc] 67)).alloc (.cells #[.int .i64 0, .int .i64 0, .int .i64 0, .int .i64 0, .int .u64 0, .int .u64 0, .bool false, .int .i64 0, .int .i64 0] 67)
  replace hX := (Blk.new w [.int .i64 (23), .int .i64 j, .int .i64 c, .int .i64 m, .int .u64 a, .int .u64 p, .bool (found), .int .i64 tail, .int .i64 cyc] 67).alloc (.cells #[.int .i64 0, .int .i64 0, .int .i64 0, .int .i64 0, .int .u64 0, .int .u64 0, .bool false, .int .i64 0, .int .i64 0] 67)
  replace hR := Blk.new (w.alloc (.cells #[.int .i64 (23), .int .i64 j, .int .i64 c, .int .i64 m, .int .u64 a, .int .u64 p, .bool (found), .int .i64 tail, .int .i64 cyc] 67)) [.int .i64 0, .int .i64 0, .int .i64 0, .int .i64 0, .int .u64 0, .int .u64 0, .bool false, .int .i64 0, .int .i64 0] 67
  simp only [World.size_alloc] at hR
  replace hFF := ((Fr.refl [h, db] w).alloc (.cells #[.int .i64 (23), .int .i64 j, .int .i64 c, .int .i64 m, .int .u64 a, .int .u64 p, .bool (found), .int .i64 tail, .int .i64 cyc] 67)).alloc (.cells #[.int .i64 0, .int .i64 0, .int .i64 0, .int .i64 0, .int .u64 0, .int .u64 0, .bool false, .int .i64 0, .int .i64 0] 67)
  have a1 : h ≠ w.heap.size := by omega
  have a2 : db ≠ w.heap.size := by omega
  have a3 : ab ≠ w.heap.size := by omega
  have b1 : h ≠ w.heap.size + 1 := by omega
  have b2 : db ≠ w.heap.size + 1 := by omega
  have b3 : ab ≠ w.heap.size + 1 := by omega
  have d1 : ¬ w.heap.size = h := by omega
  have d2 : ¬ w.heap.size = db := by omega
  have d3 : ¬ w.heap.size + 1 = h := by omega
  have d4 : ¬ w.heap.size + 1 = db := by omega
  have hcw : IntKind.i64.wrap (c + 1) = c + 1 := w64 _ (by omega)
  have hyw : IntKind.i64.wrap (cyc + 1) = cyc + 1 := w64 _ (by omega)
  have hrr := H.right
  have hcb := cellW_bd c
  have hcb0 := hcb.1
  have hcb1 := hcb.2
  clear hcb
  go_enter Try.func34, Try.ntmps34
  go_wp2_with fail
  replace HH := HH.drew
  replace hX := hX.drew
  replace hR := hR.drew
  replace hFF := hFF.drew
  replace kX := hX.cell
  replace fX := hX.free
  replace kR := hR.cell
  replace fR := hR.free
  replace kH := HH.cellsC (c := s.c) rfl
  go_region_held3 (fun w' => w'.cell? ⟨w.heap.size, 2, none⟩ = some (.int .i64 (c)) ∧ w'.cell? ⟨w.heap.size, 7, none⟩ = some (.int .i64 (tail)) ∧ w'.cell? ⟨h, 1, none⟩ = some (.int .i64 s.c.cells) ∧ w'.cell? ⟨h, 2, none⟩ = some (.int .i64 s.c.muts) ∧ w'.cell? ⟨h, 3, none⟩ = some (.int .i64 s.c.regs) ∧ w'.cell? ⟨h, 4, none⟩ = some (.int .i64 s.c.globs)) (go_keep)
    (first | (go_at_call 104; refine (cdr_any hrr _ _).mono ?_; rintro e w2 ⟨rfl, hF2⟩; (replace HH := HH.kept0 hF2); (replace hX := hX.kept hF2 (by simp)); (replace hR := hR.kept hF2 (by simp)); (replace hFF := hFF.trans (hF2.mono (by simp))); (replace kX := hX.cell); (replace fX := hX.free); (replace kR := hR.cell); (replace fR := hR.free); (replace kH := HH.cellsC (c := s.c) rfl)) | (go_at_call 107; refine (cell_any _ _).mono ?_; rintro e w2 ⟨rfl, rfl⟩) | (go_at_call 103; refine (hstore_any HH _ _ (by omega)).mono ?_; rintro e w2 ⟨rfl, HH, hF2⟩; (replace hX := hX.kept hF2 hXn); (replace hR := hR.kept hF2 hRn); (replace hFF := hFF.trans hF2); (replace kX := hX.cell); (replace fX := hX.free); (replace kR := hR.cell); (replace fR := hR.free); (replace kH := HH.cellsC (c := s.c) rfl)))
  go_wp2_with fail
  replace hX := (((hX.set 7 (.int .i64 c)).set 2 (.int .i64 (c + 1))).set 0 (.int .i64 20))
  simp only [List.set_cons_zero, List.set_cons_succ] at hX
  replace HH := (((HH.other (p := ⟨w.heap.size, 7, none⟩) a1 a3 a2 (.int .i64 c)).other (p := ⟨w.heap.size, 2, none⟩) a1 a3 a2 (.int .i64 (c + 1))).other (p := ⟨w.heap.size, 0, none⟩) a1 a3 a2 (.int .i64 20))
  replace hR := (((hR.other (p := ⟨w.heap.size, 7, none⟩) (Nat.succ_ne_self _) (.int .i64 c)).other (p := ⟨w.heap.size, 2, none⟩) (Nat.succ_ne_self _) (.int .i64 (c + 1))).other (p := ⟨w.heap.size, 0, none⟩) (Nat.succ_ne_self _) (.int .i64 20))
  replace hFF := (((hFF.setNew (p := ⟨w.heap.size, 7, none⟩) (Nat.le_refl _) (.int .i64 c)).setNew (p := ⟨w.heap.size, 2, none⟩) (Nat.le_refl _) (.int .i64 (c + 1))).setNew (p := ⟨w.heap.size, 0, none⟩) (Nat.le_refl _) (.int .i64 20))
  replace kX := hX.cell
  replace fX := hX.free
  replace kR := hR.cell
  replace fR := hR.free
  replace kH := HH.cellsC (c := s.c) rfl
  have HHu := HH
  have hFFu := hFF
  have kXu := hX.cell
  have fXu := hX.free
  have kRu := hR.cell
  have fRu := hR.free
  replace HH := HH.drew
  replace hX := hX.drew
  replace hR := hR.drew
  replace hFF := hFF.drew
  replace kX := hX.cell
  replace fX := hX.free
  replace kR := hR.cell
  replace fR := hR.free
  replace kH := HH.cellsC (c := s.c) rfl
  go_region_held3 (fun w' => w'.cell? ⟨w.heap.size, 2, none⟩ = some (.int .i64 (c + 1)) ∧ w'.cell? ⟨h, 1, none⟩ = some (.int .i64 s.c.cells) ∧ w'.cell? ⟨h, 2, none⟩ = some (.int .i64 s.c.muts) ∧ w'.cell? ⟨h, 3, none⟩ = some (.int .i64 s.c.regs) ∧ w'.cell? ⟨h, 4, none⟩ = some (.int .i64 s.c.globs)) (go_keep)
    (first | fail)
  go_wp2_with fail
  refine bodyPost_ret (v := .tuple #[.agg #[.int .i64 (20), .int .i64 j, .int .i64 ((c + 1)), .int .i64 m, .int .u64 a, .int .u64 p, .bool (found), .int .i64 c, .int .i64 cyc], .int .i64 2, .bool true]) (by simp [results, Try.results34, go_sem, kX, kR, kXu, kRu]) rfl ⟨rfl, ?_, ?_⟩
  · repeat (first | with_reducible exact HH | with_reducible exact HHu | with_reducible refine HAt.drew ?_ | with_reducible refine HAt.other ?_ a1 a3 a2 _ | with_reducible refine HAt.other ?_ b1 b3 b2 _)
  · repeat (first | with_reducible exact hFF | with_reducible exact hFFu | with_reducible refine Fr.drew ?_ | with_reducible refine Fr.setNew ?_ (Nat.le_refl _) _ | with_reducible refine Fr.setNew ?_ (Nat.le_succ _) _)

set_option maxRecDepth 100000 in
set_option maxHeartbeats 4000000 in
theorem sw23b {w : World} {h ab db : Nat} {s : HS} (H : HAt w h ab db s)  (j c m a p tail cyc : Int) (found : Bool) (hc : -1000000 ≤ c ∧ c ≤ 1000000) (hy : -1000000 ≤ cyc ∧ cyc ≤ 1000000) (ht : -1000000 ≤ tail ∧ tail ≤ 1000000) (hl : ¬ c + 1 < s.c.cells) :
    Calls Try.prog 34 #[.pointer (some ⟨h, 0, none⟩), .agg #[.int .i64 (23), .int .i64 j, .int .i64 c, .int .i64 m, .int .u64 a, .int .u64 p, .bool (found), .int .i64 tail, .int .i64 cyc]] w fun e w' => e = .returned (.tuple #[.agg #[.int .i64 (1), .int .i64 (0), .int .i64 ((c + 1)), .int .i64 m, .int .u64 a, .int .u64 (0), .bool (found), .int .i64 c, .int .i64 ((cyc + 1))], .int .i64 5, .bool true]) ∧ (HAt w' h ab db (s.doIt (aStore (s.c.cellP 1 tail) (cellW c))) ∧ Fr [h, db] w w') := by
  have n0 := H.blk.lt
  have n1 := H.ar.dat.lt
  have n2 := H.ar.hdr.lt
  have hXn : w.heap.size ∉ [h, db] := by simp; omega
  have hRn : w.heap.size + 1 ∉ [h, db] := by simp; omega
  replace HH := (H.alloc (.cells #[.int .i64 (23), .int .i64 j, .int .i64 c, .int .i64 m, .int .u64 a, .int .u64 p, .bool (found), .int .i64 tail, .int .i64 cyc] 67)).alloc (.cells #[.int .i64 0, .int .i64 0, .int .i64 0, .int .i64 0, .int .u64 0, .int .u64 0, .bool false, .int .i64 0, .int .i64 0] 67)
  replace hX := (Blk.new w [.int .i64 (23), .int .i64 j, .int .i64 c, .int .i64 m, .int .u64 a, .int .u64 p, .bool (found), .int .i64 tail, .int .i64 cyc] 67).alloc (.cells #[.int .i64 0, .int .i64 0, .int .i64 0, .int .i64 0, .int .u64 0, .int .u64 0, .bool false, .int .i64 0, .int .i64 0] 67)
  replace hR := Blk.new (w.alloc (.cells #[.int .i64 (23), .int .i64 j, .int .i64 c, .int .i64 m, .int .u64 a, .int .u64 p, .bool (found), .int .i64 tail, .int .i64 cyc] 67)) [.int .i64 0, .int .i64 0, .int .i64 0, .int .i64 0, .int .u64 0, .int .u64 0, .bool false, .int .i64 0, .int .i64 0] 67
  simp only [World.size_alloc] at hR
  replace hFF := ((Fr.refl [h, db] w).alloc (.cells #[.int .i64 (23), .int .i64 j, .int .i64 c, .int .i64 m, .int .u64 a, .int .u64 p, .bool (found), .int .i64 tail, .int .i64 cyc] 67)).alloc (.cells #[.int .i64 0, .int .i64 0, .int .i64 0, .int .i64 0, .int .u64 0, .int .u64 0, .bool false, .int .i64 0, .int .i64 0] 67)
  have a1 : h ≠ w.heap.size := by omega
  have a2 : db ≠ w.heap.size := by omega
  have a3 : ab ≠ w.heap.size := by omega
  have b1 : h ≠ w.heap.size + 1 := by omega
  have b2 : db ≠ w.heap.size + 1 := by omega
  have b3 : ab ≠ w.heap.size + 1 := by omega
  have d1 : ¬ w.heap.size = h := by omega
  have d2 : ¬ w.heap.size = db := by omega
  have d3 : ¬ w.heap.size + 1 = h := by omega
  have d4 : ¬ w.heap.size + 1 = db := by omega
  have hcw : IntKind.i64.wrap (c + 1) = c + 1 := w64 _ (by omega)
  have hyw : IntKind.i64.wrap (cyc + 1) = cyc + 1 := w64 _ (by omega)
  have hrr := H.right
  have hcb := cellW_bd c
  have hcb0 := hcb.1
  have hcb1 := hcb.2
  clear hcb
  go_enter Try.func34, Try.ntmps34
  go_wp2_with fail
  replace HH := HH.drew
  replace hX := hX.drew
  replace hR := hR.drew
  replace hFF := hFF.drew
  replace kX := hX.cell
  replace fX := hX.free
  replace kR := hR.cell
  replace fR := hR.free
  replace kH := HH.cellsC (c := s.c) rfl
  go_region_held3 (fun w' => w'.cell? ⟨w.heap.size, 2, none⟩ = some (.int .i64 (c)) ∧ w'.cell? ⟨w.heap.size, 7, none⟩ = some (.int .i64 (tail)) ∧ w'.cell? ⟨h, 1, none⟩ = some (.int .i64 s.c.cells) ∧ w'.cell? ⟨h, 2, none⟩ = some (.int .i64 s.c.muts) ∧ w'.cell? ⟨h, 3, none⟩ = some (.int .i64 s.c.regs) ∧ w'.cell? ⟨h, 4, none⟩ = some (.int .i64 s.c.globs)) (go_keep)
    (first | (go_at_call 104; refine (cdr_any hrr _ _).mono ?_; rintro e w2 ⟨rfl, hF2⟩; (replace HH := HH.kept0 hF2); (replace hX := hX.kept hF2 (by simp)); (replace hR := hR.kept hF2 (by simp)); (replace hFF := hFF.trans (hF2.mono (by simp))); (replace kX := hX.cell); (replace fX := hX.free); (replace kR := hR.cell); (replace fR := hR.free); (replace kH := HH.cellsC (c := s.c) rfl)) | (go_at_call 107; refine (cell_any _ _).mono ?_; rintro e w2 ⟨rfl, rfl⟩) | (go_at_call 103; refine (hstore_any HH _ _ (by omega)).mono ?_; rintro e w2 ⟨rfl, HH, hF2⟩; (replace hX := hX.kept hF2 hXn); (replace hR := hR.kept hF2 hRn); (replace hFF := hFF.trans hF2); (replace kX := hX.cell); (replace fX := hX.free); (replace kR := hR.cell); (replace fR := hR.free); (replace kH := HH.cellsC (c := s.c) rfl)))
  go_wp2_with fail
  replace hX := (((hX.set 7 (.int .i64 c)).set 2 (.int .i64 (c + 1))).set 0 (.int .i64 20))
  simp only [List.set_cons_zero, List.set_cons_succ] at hX
  replace HH := (((HH.other (p := ⟨w.heap.size, 7, none⟩) a1 a3 a2 (.int .i64 c)).other (p := ⟨w.heap.size, 2, none⟩) a1 a3 a2 (.int .i64 (c + 1))).other (p := ⟨w.heap.size, 0, none⟩) a1 a3 a2 (.int .i64 20))
  replace hR := (((hR.other (p := ⟨w.heap.size, 7, none⟩) (Nat.succ_ne_self _) (.int .i64 c)).other (p := ⟨w.heap.size, 2, none⟩) (Nat.succ_ne_self _) (.int .i64 (c + 1))).other (p := ⟨w.heap.size, 0, none⟩) (Nat.succ_ne_self _) (.int .i64 20))
  replace hFF := (((hFF.setNew (p := ⟨w.heap.size, 7, none⟩) (Nat.le_refl _) (.int .i64 c)).setNew (p := ⟨w.heap.size, 2, none⟩) (Nat.le_refl _) (.int .i64 (c + 1))).setNew (p := ⟨w.heap.size, 0, none⟩) (Nat.le_refl _) (.int .i64 20))
  replace kX := hX.cell
  replace fX := hX.free
  replace kR := hR.cell
  replace fR := hR.free
  replace kH := HH.cellsC (c := s.c) rfl
  have HHu := HH
  have hFFu := hFF
  have kXu := hX.cell
  have fXu := hX.free
  have kRu := hR.cell
  have fRu := hR.free
  replace HH := HH.drew
  replace hX := hX.drew
  replace hR := hR.drew
  replace hFF := hFF.drew
  replace kX := hX.cell
  replace fX := hX.free
  replace kR := hR.cell
  replace fR := hR.free
  replace kH := HH.cellsC (c := s.c) rfl
  go_region_held3 (fun w' => w'.cell? ⟨w.heap.size, 2, none⟩ = some (.int .i64 (c + 1)) ∧ w'.cell? ⟨h, 1, none⟩ = some (.int .i64 s.c.cells) ∧ w'.cell? ⟨h, 2, none⟩ = some (.int .i64 s.c.muts) ∧ w'.cell? ⟨h, 3, none⟩ = some (.int .i64 s.c.regs) ∧ w'.cell? ⟨h, 4, none⟩ = some (.int .i64 s.c.globs)) (go_keep)
    (first | fail)
  go_wp2_with (first | (go_at_call 108; refine (rbegin15_any _ _ _ _ _ _ _ _ _ _).mono ?_; rintro e w9 ⟨rfl, hF2⟩; (replace hX := hX.set 8 (.int .i64 (cyc + 1))); simp only [List.set_cons_zero, List.set_cons_succ] at hX; (replace hX := hX.kept hF2 (by simp)); (replace HH := (HH.other (p := ⟨w.heap.size, 8, none⟩) a1 a3 a2 (.int .i64 (cyc + 1))).kept0 hF2); (replace hR := (hR.other (p := ⟨w.heap.size, 8, none⟩) (Nat.succ_ne_self _) (.int .i64 (cyc + 1))).kept hF2 (by simp)); (replace hFF := (hFF.setNew (p := ⟨w.heap.size, 8, none⟩) (Nat.le_refl _) (.int .i64 (cyc + 1))).trans (hF2.mono (by simp))); (replace kX := hX.cell); (replace fX := hX.free); (replace kR := hR.cell); (replace fR := hR.free)))
  refine bodyPost_ret (v := .tuple #[.agg #[.int .i64 (1), .int .i64 (0), .int .i64 ((c + 1)), .int .i64 m, .int .u64 a, .int .u64 (0), .bool (found), .int .i64 c, .int .i64 ((cyc + 1))], .int .i64 5, .bool true]) (by simp [results, Try.results34, go_sem, kX, kR, kXu, kRu]) rfl ⟨rfl, ?_, ?_⟩
  · repeat (first | with_reducible exact HH | with_reducible exact HHu | with_reducible refine HAt.drew ?_ | with_reducible refine HAt.other ?_ a1 a3 a2 _ | with_reducible refine HAt.other ?_ b1 b3 b2 _)
  · repeat (first | with_reducible exact hFF | with_reducible exact hFFu | with_reducible refine Fr.drew ?_ | with_reducible refine Fr.setNew ?_ (Nat.le_refl _) _ | with_reducible refine Fr.setNew ?_ (Nat.le_succ _) _)

set_option maxRecDepth 100000 in
set_option maxHeartbeats 4000000 in
theorem sw24a {w : World} {h ab db : Nat} {s : HS} (H : HAt w h ab db s)  (j c m a p tail cyc : Int) (found : Bool) (hc : -1000000 ≤ c ∧ c ≤ 1000000) (hy : -1000000 ≤ cyc ∧ cyc ≤ 1000000) (ht : -1000000 ≤ tail ∧ tail ≤ 1000000) (hl : c + 1 < s.c.cells) :
    Calls Try.prog 34 #[.pointer (some ⟨h, 0, none⟩), .agg #[.int .i64 (24), .int .i64 j, .int .i64 c, .int .i64 m, .int .u64 a, .int .u64 p, .bool (found), .int .i64 tail, .int .i64 cyc]] w fun e w' => e = .returned (.tuple #[.agg #[.int .i64 (20), .int .i64 j, .int .i64 ((c + 1)), .int .i64 m, .int .u64 a, .int .u64 p, .bool (found), .int .i64 tail, .int .i64 cyc], .int .i64 0, .bool true]) ∧ (HAt w' h ab db (s.doIt (aStore (s.c.cellP 2 c) 0)) ∧ Fr [h, db] w w') := by
  have n0 := H.blk.lt
  have n1 := H.ar.dat.lt
  have n2 := H.ar.hdr.lt
  have hXn : w.heap.size ∉ [h, db] := by simp; omega
  have hRn : w.heap.size + 1 ∉ [h, db] := by simp; omega
  replace HH := (H.alloc (.cells #[.int .i64 (24), .int .i64 j, .int .i64 c, .int .i64 m, .int .u64 a, .int .u64 p, .bool (found), .int .i64 tail, .int .i64 cyc] 67)).alloc (.cells #[.int .i64 0, .int .i64 0, .int .i64 0, .int .i64 0, .int .u64 0, .int .u64 0, .bool false, .int .i64 0, .int .i64 0] 67)
  replace hX := (Blk.new w [.int .i64 (24), .int .i64 j, .int .i64 c, .int .i64 m, .int .u64 a, .int .u64 p, .bool (found), .int .i64 tail, .int .i64 cyc] 67).alloc (.cells #[.int .i64 0, .int .i64 0, .int .i64 0, .int .i64 0, .int .u64 0, .int .u64 0, .bool false, .int .i64 0, .int .i64 0] 67)
  replace hR := Blk.new (w.alloc (.cells #[.int .i64 (24), .int .i64 j, .int .i64 c, .int .i64 m, .int .u64 a, .int .u64 p, .bool (found), .int .i64 tail, .int .i64 cyc] 67)) [.int .i64 0, .int .i64 0, .int .i64 0, .int .i64 0, .int .u64 0, .int .u64 0, .bool false, .int .i64 0, .int .i64 0] 67
  simp only [World.size_alloc] at hR
  replace hFF := ((Fr.refl [h, db] w).alloc (.cells #[.int .i64 (24), .int .i64 j, .int .i64 c, .int .i64 m, .int .u64 a, .int .u64 p, .bool (found), .int .i64 tail, .int .i64 cyc] 67)).alloc (.cells #[.int .i64 0, .int .i64 0, .int .i64 0, .int .i64 0, .int .u64 0, .int .u64 0, .bool false, .int .i64 0, .int .i64 0] 67)
  have a1 : h ≠ w.heap.size := by omega
  have a2 : db ≠ w.heap.size := by omega
  have a3 : ab ≠ w.heap.size := by omega
  have b1 : h ≠ w.heap.size + 1 := by omega
  have b2 : db ≠ w.heap.size + 1 := by omega
  have b3 : ab ≠ w.heap.size + 1 := by omega
  have d1 : ¬ w.heap.size = h := by omega
  have d2 : ¬ w.heap.size = db := by omega
  have d3 : ¬ w.heap.size + 1 = h := by omega
  have d4 : ¬ w.heap.size + 1 = db := by omega
  have hcw : IntKind.i64.wrap (c + 1) = c + 1 := w64 _ (by omega)
  have hyw : IntKind.i64.wrap (cyc + 1) = cyc + 1 := w64 _ (by omega)
  have hrr := H.right
  have hcb := cellW_bd c
  have hcb0 := hcb.1
  have hcb1 := hcb.2
  clear hcb
  go_enter Try.func34, Try.ntmps34
  go_wp2_with fail
  replace HH := HH.drew
  replace hX := hX.drew
  replace hR := hR.drew
  replace hFF := hFF.drew
  replace kX := hX.cell
  replace fX := hX.free
  replace kR := hR.cell
  replace fR := hR.free
  replace kH := HH.cellsC (c := s.c) rfl
  go_region_held3 (fun w' => w'.cell? ⟨w.heap.size, 2, none⟩ = some (.int .i64 (c)) ∧ w'.cell? ⟨h, 1, none⟩ = some (.int .i64 s.c.cells) ∧ w'.cell? ⟨h, 2, none⟩ = some (.int .i64 s.c.muts) ∧ w'.cell? ⟨h, 3, none⟩ = some (.int .i64 s.c.regs) ∧ w'.cell? ⟨h, 4, none⟩ = some (.int .i64 s.c.globs)) (go_keep)
    (first | (go_at_call 105; refine (colour_any hrr _ _).mono ?_; rintro e w2 ⟨rfl, hF2⟩; (replace HH := HH.kept0 hF2); (replace hX := hX.kept hF2 (by simp)); (replace hR := hR.kept hF2 (by simp)); (replace hFF := hFF.trans (hF2.mono (by simp))); (replace kX := hX.cell); (replace fX := hX.free); (replace kR := hR.cell); (replace fR := hR.free); (replace kH := HH.cellsC (c := s.c) rfl)) | (go_at_call 103; refine (hstore_any HH _ _ (by omega)).mono ?_; rintro e w2 ⟨rfl, HH, hF2⟩; (replace hX := hX.kept hF2 hXn); (replace hR := hR.kept hF2 hRn); (replace hFF := hFF.trans hF2); (replace kX := hX.cell); (replace fX := hX.free); (replace kR := hR.cell); (replace fR := hR.free); (replace kH := HH.cellsC (c := s.c) rfl)))
  go_wp2_with fail
  replace hX := ((hX.set 2 (.int .i64 (c + 1))).set 0 (.int .i64 20))
  simp only [List.set_cons_zero, List.set_cons_succ] at hX
  replace HH := ((HH.other (p := ⟨w.heap.size, 2, none⟩) a1 a3 a2 (.int .i64 (c + 1))).other (p := ⟨w.heap.size, 0, none⟩) a1 a3 a2 (.int .i64 20))
  replace hR := ((hR.other (p := ⟨w.heap.size, 2, none⟩) (Nat.succ_ne_self _) (.int .i64 (c + 1))).other (p := ⟨w.heap.size, 0, none⟩) (Nat.succ_ne_self _) (.int .i64 20))
  replace hFF := ((hFF.setNew (p := ⟨w.heap.size, 2, none⟩) (Nat.le_refl _) (.int .i64 (c + 1))).setNew (p := ⟨w.heap.size, 0, none⟩) (Nat.le_refl _) (.int .i64 20))
  replace kX := hX.cell
  replace fX := hX.free
  replace kR := hR.cell
  replace fR := hR.free
  replace kH := HH.cellsC (c := s.c) rfl
  have HHu := HH
  have hFFu := hFF
  have kXu := hX.cell
  have fXu := hX.free
  have kRu := hR.cell
  have fRu := hR.free
  replace HH := HH.drew
  replace hX := hX.drew
  replace hR := hR.drew
  replace hFF := hFF.drew
  replace kX := hX.cell
  replace fX := hX.free
  replace kR := hR.cell
  replace fR := hR.free
  replace kH := HH.cellsC (c := s.c) rfl
  go_region_held3 (fun w' => w'.cell? ⟨w.heap.size, 2, none⟩ = some (.int .i64 (c + 1)) ∧ w'.cell? ⟨h, 1, none⟩ = some (.int .i64 s.c.cells) ∧ w'.cell? ⟨h, 2, none⟩ = some (.int .i64 s.c.muts) ∧ w'.cell? ⟨h, 3, none⟩ = some (.int .i64 s.c.regs) ∧ w'.cell? ⟨h, 4, none⟩ = some (.int .i64 s.c.globs)) (go_keep)
    (first | fail)
  go_wp2_with fail
  refine bodyPost_ret (v := .tuple #[.agg #[.int .i64 (20), .int .i64 j, .int .i64 ((c + 1)), .int .i64 m, .int .u64 a, .int .u64 p, .bool (found), .int .i64 tail, .int .i64 cyc], .int .i64 0, .bool true]) (by simp [results, Try.results34, go_sem, kX, kR, kXu, kRu]) rfl ⟨rfl, ?_, ?_⟩
  · repeat (first | with_reducible exact HH | with_reducible exact HHu | with_reducible refine HAt.drew ?_ | with_reducible refine HAt.other ?_ a1 a3 a2 _ | with_reducible refine HAt.other ?_ b1 b3 b2 _)
  · repeat (first | with_reducible exact hFF | with_reducible exact hFFu | with_reducible refine Fr.drew ?_ | with_reducible refine Fr.setNew ?_ (Nat.le_refl _) _ | with_reducible refine Fr.setNew ?_ (Nat.le_succ _) _)

set_option maxRecDepth 100000 in
set_option maxHeartbeats 4000000 in
theorem sw24b {w : World} {h ab db : Nat} {s : HS} (H : HAt w h ab db s)  (j c m a p tail cyc : Int) (found : Bool) (hc : -1000000 ≤ c ∧ c ≤ 1000000) (hy : -1000000 ≤ cyc ∧ cyc ≤ 1000000) (ht : -1000000 ≤ tail ∧ tail ≤ 1000000) (hl : ¬ c + 1 < s.c.cells) :
    Calls Try.prog 34 #[.pointer (some ⟨h, 0, none⟩), .agg #[.int .i64 (24), .int .i64 j, .int .i64 c, .int .i64 m, .int .u64 a, .int .u64 p, .bool (found), .int .i64 tail, .int .i64 cyc]] w fun e w' => e = .returned (.tuple #[.agg #[.int .i64 (1), .int .i64 (0), .int .i64 ((c + 1)), .int .i64 m, .int .u64 a, .int .u64 (0), .bool (found), .int .i64 tail, .int .i64 ((cyc + 1))], .int .i64 3, .bool true]) ∧ (HAt w' h ab db (s.doIt (aStore (s.c.cellP 2 c) 0)) ∧ Fr [h, db] w w') := by
  have n0 := H.blk.lt
  have n1 := H.ar.dat.lt
  have n2 := H.ar.hdr.lt
  have hXn : w.heap.size ∉ [h, db] := by simp; omega
  have hRn : w.heap.size + 1 ∉ [h, db] := by simp; omega
  replace HH := (H.alloc (.cells #[.int .i64 (24), .int .i64 j, .int .i64 c, .int .i64 m, .int .u64 a, .int .u64 p, .bool (found), .int .i64 tail, .int .i64 cyc] 67)).alloc (.cells #[.int .i64 0, .int .i64 0, .int .i64 0, .int .i64 0, .int .u64 0, .int .u64 0, .bool false, .int .i64 0, .int .i64 0] 67)
  replace hX := (Blk.new w [.int .i64 (24), .int .i64 j, .int .i64 c, .int .i64 m, .int .u64 a, .int .u64 p, .bool (found), .int .i64 tail, .int .i64 cyc] 67).alloc (.cells #[.int .i64 0, .int .i64 0, .int .i64 0, .int .i64 0, .int .u64 0, .int .u64 0, .bool false, .int .i64 0, .int .i64 0] 67)
  replace hR := Blk.new (w.alloc (.cells #[.int .i64 (24), .int .i64 j, .int .i64 c, .int .i64 m, .int .u64 a, .int .u64 p, .bool (found), .int .i64 tail, .int .i64 cyc] 67)) [.int .i64 0, .int .i64 0, .int .i64 0, .int .i64 0, .int .u64 0, .int .u64 0, .bool false, .int .i64 0, .int .i64 0] 67
  simp only [World.size_alloc] at hR
  replace hFF := ((Fr.refl [h, db] w).alloc (.cells #[.int .i64 (24), .int .i64 j, .int .i64 c, .int .i64 m, .int .u64 a, .int .u64 p, .bool (found), .int .i64 tail, .int .i64 cyc] 67)).alloc (.cells #[.int .i64 0, .int .i64 0, .int .i64 0, .int .i64 0, .int .u64 0, .int .u64 0, .bool false, .int .i64 0, .int .i64 0] 67)
  have a1 : h ≠ w.heap.size := by omega
  have a2 : db ≠ w.heap.size := by omega
  have a3 : ab ≠ w.heap.size := by omega
  have b1 : h ≠ w.heap.size + 1 := by omega
  have b2 : db ≠ w.heap.size + 1 := by omega
  have b3 : ab ≠ w.heap.size + 1 := by omega
  have d1 : ¬ w.heap.size = h := by omega
  have d2 : ¬ w.heap.size = db := by omega
  have d3 : ¬ w.heap.size + 1 = h := by omega
  have d4 : ¬ w.heap.size + 1 = db := by omega
  have hcw : IntKind.i64.wrap (c + 1) = c + 1 := w64 _ (by omega)
  have hyw : IntKind.i64.wrap (cyc + 1) = cyc + 1 := w64 _ (by omega)
  have hrr := H.right
  have hcb := cellW_bd c
  have hcb0 := hcb.1
  have hcb1 := hcb.2
  clear hcb
  go_enter Try.func34, Try.ntmps34
  go_wp2_with fail
  replace HH := HH.drew
  replace hX := hX.drew
  replace hR := hR.drew
  replace hFF := hFF.drew
  replace kX := hX.cell
  replace fX := hX.free
  replace kR := hR.cell
  replace fR := hR.free
  replace kH := HH.cellsC (c := s.c) rfl
  go_region_held3 (fun w' => w'.cell? ⟨w.heap.size, 2, none⟩ = some (.int .i64 (c)) ∧ w'.cell? ⟨h, 1, none⟩ = some (.int .i64 s.c.cells) ∧ w'.cell? ⟨h, 2, none⟩ = some (.int .i64 s.c.muts) ∧ w'.cell? ⟨h, 3, none⟩ = some (.int .i64 s.c.regs) ∧ w'.cell? ⟨h, 4, none⟩ = some (.int .i64 s.c.globs)) (go_keep)
    (first | (go_at_call 105; refine (colour_any hrr _ _).mono ?_; rintro e w2 ⟨rfl, hF2⟩; (replace HH := HH.kept0 hF2); (replace hX := hX.kept hF2 (by simp)); (replace hR := hR.kept hF2 (by simp)); (replace hFF := hFF.trans (hF2.mono (by simp))); (replace kX := hX.cell); (replace fX := hX.free); (replace kR := hR.cell); (replace fR := hR.free); (replace kH := HH.cellsC (c := s.c) rfl)) | (go_at_call 103; refine (hstore_any HH _ _ (by omega)).mono ?_; rintro e w2 ⟨rfl, HH, hF2⟩; (replace hX := hX.kept hF2 hXn); (replace hR := hR.kept hF2 hRn); (replace hFF := hFF.trans hF2); (replace kX := hX.cell); (replace fX := hX.free); (replace kR := hR.cell); (replace fR := hR.free); (replace kH := HH.cellsC (c := s.c) rfl)))
  go_wp2_with fail
  replace hX := ((hX.set 2 (.int .i64 (c + 1))).set 0 (.int .i64 20))
  simp only [List.set_cons_zero, List.set_cons_succ] at hX
  replace HH := ((HH.other (p := ⟨w.heap.size, 2, none⟩) a1 a3 a2 (.int .i64 (c + 1))).other (p := ⟨w.heap.size, 0, none⟩) a1 a3 a2 (.int .i64 20))
  replace hR := ((hR.other (p := ⟨w.heap.size, 2, none⟩) (Nat.succ_ne_self _) (.int .i64 (c + 1))).other (p := ⟨w.heap.size, 0, none⟩) (Nat.succ_ne_self _) (.int .i64 20))
  replace hFF := ((hFF.setNew (p := ⟨w.heap.size, 2, none⟩) (Nat.le_refl _) (.int .i64 (c + 1))).setNew (p := ⟨w.heap.size, 0, none⟩) (Nat.le_refl _) (.int .i64 20))
  replace kX := hX.cell
  replace fX := hX.free
  replace kR := hR.cell
  replace fR := hR.free
  replace kH := HH.cellsC (c := s.c) rfl
  have HHu := HH
  have hFFu := hFF
  have kXu := hX.cell
  have fXu := hX.free
  have kRu := hR.cell
  have fRu := hR.free
  replace HH := HH.drew
  replace hX := hX.drew
  replace hR := hR.drew
  replace hFF := hFF.drew
  replace kX := hX.cell
  replace fX := hX.free
  replace kR := hR.cell
  replace fR := hR.free
  replace kH := HH.cellsC (c := s.c) rfl
  go_region_held3 (fun w' => w'.cell? ⟨w.heap.size, 2, none⟩ = some (.int .i64 (c + 1)) ∧ w'.cell? ⟨h, 1, none⟩ = some (.int .i64 s.c.cells) ∧ w'.cell? ⟨h, 2, none⟩ = some (.int .i64 s.c.muts) ∧ w'.cell? ⟨h, 3, none⟩ = some (.int .i64 s.c.regs) ∧ w'.cell? ⟨h, 4, none⟩ = some (.int .i64 s.c.globs)) (go_keep)
    (first | fail)
  go_wp2_with (first | (go_at_call 108; refine (rbegin15_any _ _ _ _ _ _ _ _ _ _).mono ?_; rintro e w9 ⟨rfl, hF2⟩; (replace hX := hX.set 8 (.int .i64 (cyc + 1))); simp only [List.set_cons_zero, List.set_cons_succ] at hX; (replace hX := hX.kept hF2 (by simp)); (replace HH := (HH.other (p := ⟨w.heap.size, 8, none⟩) a1 a3 a2 (.int .i64 (cyc + 1))).kept0 hF2); (replace hR := (hR.other (p := ⟨w.heap.size, 8, none⟩) (Nat.succ_ne_self _) (.int .i64 (cyc + 1))).kept hF2 (by simp)); (replace hFF := (hFF.setNew (p := ⟨w.heap.size, 8, none⟩) (Nat.le_refl _) (.int .i64 (cyc + 1))).trans (hF2.mono (by simp))); (replace kX := hX.cell); (replace fX := hX.free); (replace kR := hR.cell); (replace fR := hR.free)))
  refine bodyPost_ret (v := .tuple #[.agg #[.int .i64 (1), .int .i64 (0), .int .i64 ((c + 1)), .int .i64 m, .int .u64 a, .int .u64 (0), .bool (found), .int .i64 tail, .int .i64 ((cyc + 1))], .int .i64 3, .bool true]) (by simp [results, Try.results34, go_sem, kX, kR, kXu, kRu]) rfl ⟨rfl, ?_, ?_⟩
  · repeat (first | with_reducible exact HH | with_reducible exact HHu | with_reducible refine HAt.drew ?_ | with_reducible refine HAt.other ?_ a1 a3 a2 _ | with_reducible refine HAt.other ?_ b1 b3 b2 _)
  · repeat (first | with_reducible exact hFF | with_reducible exact hFFu | with_reducible refine Fr.drew ?_ | with_reducible refine Fr.setNew ?_ (Nat.le_refl _) _ | with_reducible refine Fr.setNew ?_ (Nat.le_succ _) _)

set_option maxRecDepth 100000 in
set_option maxHeartbeats 4000000 in
theorem swno {w : World} {h ab db : Nat} {s : HS} (H : HAt w h ab db s)  (line j c m a p tail cyc : Int) (found : Bool) (k1 : ¬ line = 20) (k2 : ¬ line = 21) (k3 : ¬ line = 22) (k4 : ¬ line = 23) (k5 : ¬ line = 24) :
    Calls Try.prog 34 #[.pointer (some ⟨h, 0, none⟩), .agg #[.int .i64 line, .int .i64 j, .int .i64 c, .int .i64 m, .int .u64 a, .int .u64 p, .bool (found), .int .i64 tail, .int .i64 cyc]] w fun e w' => e = .returned (.tuple #[.agg #[.int .i64 line, .int .i64 j, .int .i64 c, .int .i64 m, .int .u64 a, .int .u64 p, .bool (found), .int .i64 tail, .int .i64 cyc], .int .i64 0, .bool false]) ∧ (HAt w' h ab db (s) ∧ Fr [h, db] w w') := by
  have n0 := H.blk.lt
  have n1 := H.ar.dat.lt
  have n2 := H.ar.hdr.lt
  have hXn : w.heap.size ∉ [h, db] := by simp; omega
  have hRn : w.heap.size + 1 ∉ [h, db] := by simp; omega
  replace HH := (H.alloc (.cells #[.int .i64 line, .int .i64 j, .int .i64 c, .int .i64 m, .int .u64 a, .int .u64 p, .bool (found), .int .i64 tail, .int .i64 cyc] 67)).alloc (.cells #[.int .i64 0, .int .i64 0, .int .i64 0, .int .i64 0, .int .u64 0, .int .u64 0, .bool false, .int .i64 0, .int .i64 0] 67)
  replace hX := (Blk.new w [.int .i64 line, .int .i64 j, .int .i64 c, .int .i64 m, .int .u64 a, .int .u64 p, .bool (found), .int .i64 tail, .int .i64 cyc] 67).alloc (.cells #[.int .i64 0, .int .i64 0, .int .i64 0, .int .i64 0, .int .u64 0, .int .u64 0, .bool false, .int .i64 0, .int .i64 0] 67)
  replace hR := Blk.new (w.alloc (.cells #[.int .i64 line, .int .i64 j, .int .i64 c, .int .i64 m, .int .u64 a, .int .u64 p, .bool (found), .int .i64 tail, .int .i64 cyc] 67)) [.int .i64 0, .int .i64 0, .int .i64 0, .int .i64 0, .int .u64 0, .int .u64 0, .bool false, .int .i64 0, .int .i64 0] 67
  simp only [World.size_alloc] at hR
  replace hFF := ((Fr.refl [h, db] w).alloc (.cells #[.int .i64 line, .int .i64 j, .int .i64 c, .int .i64 m, .int .u64 a, .int .u64 p, .bool (found), .int .i64 tail, .int .i64 cyc] 67)).alloc (.cells #[.int .i64 0, .int .i64 0, .int .i64 0, .int .i64 0, .int .u64 0, .int .u64 0, .bool false, .int .i64 0, .int .i64 0] 67)
  have a1 : h ≠ w.heap.size := by omega
  have a2 : db ≠ w.heap.size := by omega
  have a3 : ab ≠ w.heap.size := by omega
  have b1 : h ≠ w.heap.size + 1 := by omega
  have b2 : db ≠ w.heap.size + 1 := by omega
  have b3 : ab ≠ w.heap.size + 1 := by omega
  have d1 : ¬ w.heap.size = h := by omega
  have d2 : ¬ w.heap.size = db := by omega
  have d3 : ¬ w.heap.size + 1 = h := by omega
  have d4 : ¬ w.heap.size + 1 = db := by omega
  go_enter Try.func34, Try.ntmps34
  go_wp2
  refine bodyPost_ret (v := .tuple #[.agg #[.int .i64 line, .int .i64 j, .int .i64 c, .int .i64 m, .int .u64 a, .int .u64 p, .bool (found), .int .i64 tail, .int .i64 cyc], .int .i64 0, .bool false]) (by simp [results, Try.results34, go_sem]) rfl ⟨rfl, ?_, ?_⟩
  · exact (H.alloc _).alloc _
  · exact ((Fr.refl _ _).alloc _).alloc _

theorem swnil (w : World)  (line j c m a p tail cyc : Int) (found : Bool)  :
    Calls Try.prog 34 #[.pointer none, .agg #[.int .i64 line, .int .i64 j, .int .i64 c, .int .i64 m, .int .u64 a, .int .u64 p, .bool (found), .int .i64 tail, .int .i64 cyc]] w fun e w' => e = .returned (.tuple #[.agg #[.int .i64 line, .int .i64 j, .int .i64 c, .int .i64 m, .int .u64 a, .int .u64 p, .bool (found), .int .i64 tail, .int .i64 cyc], .int .i64 0, .bool false]) ∧ Fr [] w w' := by
  go_enter Try.func34, Try.ntmps34
  go_wp2
  refine bodyPost_ret (v := .tuple #[.agg #[.int .i64 line, .int .i64 j, .int .i64 c, .int .i64 m, .int .u64 a, .int .u64 p, .bool (found), .int .i64 tail, .int .i64 cyc], .int .i64 0, .bool false]) (by simp [results, Try.results34, go_sem]) rfl ⟨rfl, ((Fr.refl _ _).alloc _).alloc _⟩

end Go.Proofs.Ytnhnbgkhbhgifaa
