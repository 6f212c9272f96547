/- mudlarklaw19.CollectorSteps: the walk. -/
import Derived.Test.YteggckdgjecfmaaColRef19
import Derived.Test.YteggckdgjecfmaaColSmall
import Derived.Test.YteggckdgjecfmaaColMarks
import Derived.Test.YteggckdgjecfmaaColNil
import Derived.Test.YteggckdgjecfmaaAwake19
import Derived.Test.YteggckdgjecfmaaNear
import Derived.Test.YteggckdgjecfmaaLaw10
namespace Go.Proofs.Yteggckdgjecfmaa
open Go.RowKit
set_option linter.unusedVariables false
set_option linter.unusedSimpArgs false

set_option maxRecDepth 100000 in
set_option maxHeartbeats 4000000 in
theorem collectorSteps_any_lo (c : Cfg) (v : Value) (l : List Int) (x : ColV) (g : x.line < 20 ∧ x.line ≠ 14) (w : World) (hx : x.Wf) (hv : RdS w v l.length (u64s l)) (hl : l.length ≤ 35184372088832) (hwf : ∀ y, y ∈ l → 0 ≤ y ∧ y < 18446744073709551616) :
    Calls Try.prog 22 #[c.val, v, x.val] w fun e w' => e = .returned (.bool true) ∧ Fr [] w w' := by
  obtain ⟨ua, uc, rfl, hu⟩ := hv.elim
  clear hu
  have HM1 := hid (fun W => cmarks_any x.line x.j x.c x.m x.a x.p x.tail x.cyc x.found W)
  have HM2 := hid (fun W => rcmarks_any x.line x.j x.c x.m x.a x.p x.tail x.cyc x.found W)
  obtain ⟨mk, hmk⟩ : ∃ z, z = cMarks x.line := ⟨_, rfl⟩
  rw [← hmk] at HM1 HM2
  clear hmk
  have HSw := fun W => cswept_any x.line x.j x.c x.m x.a x.p x.tail x.cyc x.found W
  rw [show cSwept x.line x.c = -1 by unfold cSwept; rw [if_neg (by omega), if_neg (by omega)]] at HSw
  replace HSw := hid HSw
  have g1 : decide (20 ≤ x.line) = false := by simp; omega
  have g3 : (x.line == 14) = false := by simp; omega
  clear g
  have HN := hid (fun W => colnil_any W x.line x.j x.c x.m x.a x.p x.tail x.cyc x.found)
  by_cases hbo : bothOk c l.length
  · have HBo := fun W (f : Fr [] w W) => hid (both_ok (w := W) hbo.1 hbo.2.1 _ l (hv.kept0 f) hbo.2.2 hwf)
    have HB1 : Hid (∀ W : World, Calls Try.prog 89 #[c.val] W fun e w' => e = .returned (.agg #[.int .i64 1, .int .i64 0, .int .i64 0, .int .i64 0, .int .u64 0, .int .u64 0, .bool false, .int .i64 (c.cells - 1), .int .i64 0]) ∧ Fr [] W w') := fun W => cbegin_any c.cells c.muts c.regs c.globs ⟨by have := hbo.2.1.c0; omega, by have := hbo.2.1.c1; omega⟩ W
    have HB2 : Hid (∀ W : World, Calls Try.prog 90 #[c.val] W fun e w' => e = .returned (.agg #[.int .i64 1, .int .i64 0, .int .i64 0, .int .i64 0, .int .u64 0, .int .u64 0, .bool false, .int .i64 (c.cells - 1), .int .i64 0]) ∧ Fr [] W w') := fun W => rcbegin_any c.cells c.muts c.regs c.globs ⟨by have := hbo.2.1.c0; omega, by have := hbo.2.1.c1; omega⟩ W
    clear hv hbo hl hwf
    obtain ⟨s0, hs0⟩ : ∃ s : HS, s = ⟨c, l, Acc.z⟩ := ⟨_, rfl⟩
    replace hs0 := hid hs0
    by_cases hnear : x.Near
    · have HX := fun {W : World} {h ab db : Nat} (H : HAt W h ab db (s0.doIt (aLoad 0))) => col_load H x hx hnear
      have HY := fun {W : World} {r rd cap : Nat} {ext : List Value} (H : RAt W r rd cap ext s0) => rcol_any H x hx hnear
      have HFa := hid (fun W => far_no x hnear W)
      obtain ⟨res, hres⟩ : ∃ r, r = colM s0 x := ⟨_, rfl⟩
      rw [← hres] at HX HY
      clear hres hnear hx HN
      obtain ⟨⟨line2, j2, cq2, cm_2, a2, p2, found2, tail2, cyc2⟩, fl0, s2⟩ := res
      simp only [ColV.val] at HX HY
      have HAl := fun {W : World} {h ab db r rd cap : Nat} {ext : List Value} (H : HAt W h ab db s2) (R : RAt W r rd cap ext s2) => hid (by have := alike_any H R; simp only [decide_true, Bool.and_self] at this; exact this)
      obtain ⟨line, j, cq, cm_, a, p, found, tail, cyc⟩ := x
      unfold ColV.val
      obtain ⟨cc, cm, cr, cg⟩ := c
      simp only at g1 g3
      go_enter Try.func22, Try.ntmps22
      have hX := Blk.new (w.alloc (.cells #[.int .i64 cc, .int .i64 cm, .int .i64 cr, .int .i64 cg] 45)) [.int .i64 line, .int .i64 j, .int .i64 cq, .int .i64 cm_, .int .u64 a, .int .u64 p, .bool found, .int .i64 tail, .int .i64 cyc] 86
      have hB := (Blk.new w [.int .i64 cc, .int .i64 cm, .int .i64 cr, .int .i64 cg] 45).alloc (.cells #[.int .i64 line, .int .i64 j, .int .i64 cq, .int .i64 cm_, .int .u64 a, .int .u64 p, .bool found, .int .i64 tail, .int .i64 cyc] 86)
      simp only [World.size_alloc] at hX
      have hFF := ((Fr.refl [] w).alloc (.cells #[.int .i64 cc, .int .i64 cm, .int .i64 cr, .int .i64 cg] 45)).alloc (.cells #[.int .i64 line, .int .i64 j, .int .i64 cq, .int .i64 cm_, .int .u64 a, .int .u64 p, .bool found, .int .i64 tail, .int .i64 cyc] 86)
      have kX := hX.cell
      have kB := hB.cell
      go_wp2_with (first | (go_at_call 82; refine (awake19_any _).mono ?_; rintro e w2 ⟨rfl, hF2⟩; (have hB := hB.kept hF2 (by simp)); (have kB := hB.cell); (have hX := hX.kept hF2 (by simp)); (have kX := hX.cell); (have hFF := hFF.trans hF2)))
      have hX := hX.drew
      have hB := hB.drew
      have hFF := hFF.drew
      have kX := hX.cell
      have kB := hB.cell
      refine wp_region_held_drew (S := (fun w' => w'.cell? ⟨w.heap.size + 1, 0, none⟩ = some (.int .i64 line) ∧ w'.cell? ⟨w.heap.size + 1, 1, none⟩ = some (.int .i64 j) ∧ w'.cell? ⟨w.heap.size + 1, 2, none⟩ = some (.int .i64 cq) ∧ w'.cell? ⟨w.heap.size + 1, 3, none⟩ = some (.int .i64 cm_) ∧ w'.cell? ⟨w.heap.size + 1, 4, none⟩ = some (.int .u64 a) ∧ w'.cell? ⟨w.heap.size + 1, 5, none⟩ = some (.int .u64 p) ∧ w'.cell? ⟨w.heap.size + 1, 6, none⟩ = some (.bool found) ∧ w'.cell? ⟨w.heap.size + 1, 7, none⟩ = some (.int .i64 tail) ∧ w'.cell? ⟨w.heap.size + 1, 8, none⟩ = some (.int .i64 cyc))) (by kernel_rfl) ?_ (fun hHeld => ?_)
      · (try dsimp only); go_keep
      refine wpAnyH_take (i := 0) (v := ?_) rfl (by kernel_rfl) (by kernel_rfl) (by kernel_rfl) (fun _ _ _ h => h) (Or.inl ⟨by rfl, ?_⟩) (by assumption) ?_
      rotate_left
      · intro w hSw; (try dsimp only at hSw); go_simp; first | done | with_reducible rfl
      try simp only [Act.put, List.getElem_toArray, List.getElem_cons_succ, List.getElem_cons_zero, List.setIfInBounds_toArray, List.set_cons_zero, List.set_cons_succ]
      refine wpAnyH_take (i := 2) (v := ?_) rfl (by kernel_rfl) (by kernel_rfl) (by kernel_rfl) (fun _ _ _ h => h) (Or.inl ⟨by rfl, ?_⟩) (by assumption) ?_
      rotate_left
      · intro w hSw; (try dsimp only at hSw); go_simp; first | done | with_reducible rfl
      try simp only [Act.put, List.getElem_toArray, List.getElem_cons_succ, List.getElem_cons_zero, List.setIfInBounds_toArray, List.set_cons_zero, List.set_cons_succ]
      refine wpAnyH_ready (rs := [1]) (by kernel_rfl) (by simp) ?_
      refine AllReadyH.cons rfl (fun K hK => ?_) AllReadyH.nil
      go_simp
      go_at_call 83
      refine (HM1.out _).mono ?_
      rintro e w4 ⟨rfl, hF2⟩
      (have hB := hB.kept hF2 List.not_mem_nil)
      (have kB := hB.cell)
      (have hX := hX.kept hF2 List.not_mem_nil)
      (have kX := hX.cell)
      (have hFF := hFF.trans hF2)
      go_wp2_with fail
      refine hK.out _ _ ?_ (fun hHeld => ?_)
      · (try dsimp only); go_keep
      clear hK K
      try simp only [Act.put, List.getElem_toArray, List.getElem_cons_succ, List.getElem_cons_zero, List.setIfInBounds_toArray, List.set_cons_zero, List.set_cons_succ]
      refine wpAnyH_ready (rs := [3]) (by kernel_rfl) (by simp) ?_
      refine AllReadyH.cons rfl (fun K hK => ?_) AllReadyH.nil
      go_simp
      go_at_call 84
      refine (HM2.out _).mono ?_
      rintro e w4 ⟨rfl, hF2⟩
      (have hB := hB.kept hF2 List.not_mem_nil)
      (have kB := hB.cell)
      (have hX := hX.kept hF2 List.not_mem_nil)
      (have kX := hX.cell)
      (have hFF := hFF.trans hF2)
      go_wp2_with fail
      refine hK.out _ _ ?_ (fun hHeld => ?_)
      · (try dsimp only); go_keep
      clear hK K
      try simp only [Act.put, List.getElem_toArray, List.getElem_cons_succ, List.getElem_cons_zero, List.setIfInBounds_toArray, List.set_cons_zero, List.set_cons_succ]
      refine wpAnyH_take (i := 4) (v := ?_) rfl (by kernel_rfl) (by kernel_rfl) (by kernel_rfl) (fun _ _ _ h => h) (Or.inl ⟨by rfl, ?_⟩) (by assumption) ?_
      rotate_left
      · intro w hSw; (try dsimp only at hSw); go_simp; first | done | with_reducible rfl
      try simp only [Act.put, List.getElem_toArray, List.getElem_cons_succ, List.getElem_cons_zero, List.setIfInBounds_toArray, List.set_cons_zero, List.set_cons_succ]
      refine wpAnyH_take (i := 5) (v := ?_) rfl (by kernel_rfl) (by kernel_rfl) (by kernel_rfl) (fun _ _ _ h => h) (Or.inl ⟨by rfl, ?_⟩) (by assumption) ?_
      rotate_left
      · intro w hSw; (try dsimp only at hSw); go_simp; first | done | with_reducible rfl
      try simp only [Act.put, List.getElem_toArray, List.getElem_cons_succ, List.getElem_cons_zero, List.setIfInBounds_toArray, List.set_cons_zero, List.set_cons_succ]
      refine wpAnyH_take (i := 6) (v := ?_) rfl (by kernel_rfl) (by kernel_rfl) (by kernel_rfl) (fun _ _ _ h => h) (Or.inl ⟨by rfl, ?_⟩) (by assumption) ?_
      rotate_left
      · intro w hSw; (try dsimp only at hSw); go_simp; first | done | with_reducible rfl
      try simp only [Act.put, List.getElem_toArray, List.getElem_cons_succ, List.getElem_cons_zero, List.setIfInBounds_toArray, List.set_cons_zero, List.set_cons_succ]
      refine wpAnyH_take (i := 8) (v := ?_) rfl (by kernel_rfl) (by kernel_rfl) (by kernel_rfl) (fun _ _ _ h => h) (Or.inl ⟨by rfl, ?_⟩) (by assumption) ?_
      rotate_left
      · intro w hSw; (try dsimp only at hSw); go_simp; first | done | with_reducible rfl
      try simp only [Act.put, List.getElem_toArray, List.getElem_cons_succ, List.getElem_cons_zero, List.setIfInBounds_toArray, List.set_cons_zero, List.set_cons_succ]
      refine wpAnyH_ready (rs := [7]) (by kernel_rfl) (by simp) ?_
      refine AllReadyH.cons rfl (fun K hK => ?_) AllReadyH.nil
      go_simp
      go_at_call 85
      refine (HSw.out _).mono ?_
      rintro e w4 ⟨rfl, hF2⟩
      (have hB := hB.kept hF2 List.not_mem_nil)
      (have kB := hB.cell)
      (have hX := hX.kept hF2 List.not_mem_nil)
      (have kX := hX.cell)
      (have hFF := hFF.trans hF2)
      go_wp2_with fail
      refine hK.out _ _ ?_ (fun hHeld => ?_)
      · (try dsimp only); go_keep
      clear hK K
      try simp only [Act.put, List.getElem_toArray, List.getElem_cons_succ, List.getElem_cons_zero, List.setIfInBounds_toArray, List.set_cons_zero, List.set_cons_succ]
      refine wpAnyH_take (i := 9) (v := ?_) rfl (by kernel_rfl) (by kernel_rfl) (by kernel_rfl) (fun _ _ _ h => h) (Or.inl ⟨by rfl, ?_⟩) (by assumption) ?_
      rotate_left
      · intro w hSw; (try dsimp only at hSw); go_simp; first | done | with_reducible rfl
      try simp only [Act.put, List.getElem_toArray, List.getElem_cons_succ, List.getElem_cons_zero, List.setIfInBounds_toArray, List.set_cons_zero, List.set_cons_succ]
      refine wpAnyH_take (i := 10) (v := ?_) rfl (by kernel_rfl) (by kernel_rfl) (by kernel_rfl) (fun _ _ _ h => h) (Or.inl ⟨by rfl, ?_⟩) (by assumption) ?_
      rotate_left
      · intro w hSw; (try dsimp only at hSw); go_simp; first | done | with_reducible rfl
      try simp only [Act.put, List.getElem_toArray, List.getElem_cons_succ, List.getElem_cons_zero, List.setIfInBounds_toArray, List.set_cons_zero, List.set_cons_succ]
      refine wpAnyH_done (by kernel_rfl) ?_ _
      clear HM1 HM2 HSw
      go_wp2_with (first | (go_at_call 62; refine (HBo _ hFF).out.mono ?_; rintro e w5 ⟨⟨h, ab, db, r, rd, cap, ext, rfl, HH, HR, q1, q2, q3, q4, q5, d1, d2, d3, d4, d5, d6⟩, hF2⟩; rw [← hs0.out] at HH HR; (have hXl := hX.lt); (have hX := hX.kept hF2 (by simp)); (have hB := hB.kept hF2 (by simp)); (have nBk : w.heap.size ∉ [h, db] := by simp; omega); (have nBr : w.heap.size ∉ [r, rd] := by simp; omega); (have nX : w.heap.size + 1 ∉ [h, db] := by simp; omega); (have nR : r ∉ [h, db] := by simp; omega); (have nRd : rd ∉ [h, db] := by simp; omega); (have nH : h ∉ [r, rd] := by simp; omega); (have nAb : ab ∉ [r, rd] := by simp; omega); (have nDb : db ∉ [r, rd] := by simp; omega); (have sF := hFF.size); (have hSS := fun i (m : i ∈ [h, db]) (l : i < w.heap.size) => (show i ∈ ([] : List Nat) by simp at m; omega)); (have hST := fun i (m : i ∈ [r, rd]) (l : i < w.heap.size) => (show i ∈ ([] : List Nat) by simp at m; omega)); (have kX := hX.cell); (have hFF := hFF.trans hF2); clear d1 d2 d3 d4 d5 d6 q1 q2 q3 q4 q5 sF) | (go_at_call 63; refine (HFa.out _).mono ?_; rintro e w5 ⟨rfl, hF2⟩; (have HH := HH.kept0 hF2); (have HR := HR.kept0 hF2); (have hX := hX.kept hF2 (by simp)); (have kX := hX.cell); (have hFF := hFF.trans hF2); (have hB := hB.kept hF2 (by simp))) | (go_at_call 87; refine (load_u rfl HH).mono ?_; rintro e w9 ⟨rfl, HH, hF2⟩; (have HR := HR.kept hF2 nR nRd); (have hX := hX.kept hF2 nX); (have kX := hX.cell); (have hFF := hFF.trans_new hF2 hSS); (have hB := hB.kept hF2 nBk)) | (go_at_call 86; refine (HX HH).mono ?_; rintro e w6 ⟨rfl, HH2, hF2⟩; (have HR := HR.kept hF2 nR nRd); (have hX := hX.kept hF2 nX); (have kX := (hX.alloc (.cells #[.int .i64 line2, .int .i64 j2, .int .i64 cq2, .int .i64 cm_2, .int .u64 a2, .int .u64 p2, .bool found2, .int .i64 tail2, .int .i64 cyc2] 86)).cell); (have hFF := hFF.trans_new hF2 hSS); (have hB := hB.kept hF2 nBk)) | (go_at_call 88; refine (HY (HR.alloc _)).mono ?_; rintro e w7 ⟨rfl, HR2, hF2⟩; (have HH2 := (HH2.alloc _).kept hF2 nH nAb nDb); (have nA : w6.heap.size ∉ [r, rd] := by have := HR.blk.lt; have := HR.ar.dat.lt; simp; omega); (have hA := (Blk.new w6 [.int .i64 line2, .int .i64 j2, .int .i64 cq2, .int .i64 cm_2, .int .u64 a2, .int .u64 p2, .bool found2, .int .i64 tail2, .int .i64 cyc2] 86).kept hF2 nA); (have kA := (hA.alloc (.cells #[.int .i64 line2, .int .i64 j2, .int .i64 cq2, .int .i64 cm_2, .int .u64 a2, .int .u64 p2, .bool found2, .int .i64 tail2, .int .i64 cyc2] 86)).cell); (have hFF := (hFF.alloc _).trans_new hF2 hST); (have hB := (hB.alloc _).kept hF2 nBr)))
      have HH2 := (HH2.alloc (.cells #[.int .i64 line2, .int .i64 j2, .int .i64 cq2, .int .i64 cm_2, .int .u64 a2, .int .u64 p2, .bool found2, .int .i64 tail2, .int .i64 cyc2] 86)).drew
      have HR2 := (HR2.alloc (.cells #[.int .i64 line2, .int .i64 j2, .int .i64 cq2, .int .i64 cm_2, .int .u64 a2, .int .u64 p2, .bool found2, .int .i64 tail2, .int .i64 cyc2] 86)).drew
      have hA2 := (hA.alloc (.cells #[.int .i64 line2, .int .i64 j2, .int .i64 cq2, .int .i64 cm_2, .int .u64 a2, .int .u64 p2, .bool found2, .int .i64 tail2, .int .i64 cyc2] 86)).drew
      have hC2 := (Blk.new w7 [.int .i64 line2, .int .i64 j2, .int .i64 cq2, .int .i64 cm_2, .int .u64 a2, .int .u64 p2, .bool found2, .int .i64 tail2, .int .i64 cyc2] 86).drew
      have hB2 := (hB.alloc (.cells #[.int .i64 line2, .int .i64 j2, .int .i64 cq2, .int .i64 cm_2, .int .u64 a2, .int .u64 p2, .bool found2, .int .i64 tail2, .int .i64 cyc2] 86)).drew
      have hFF := (hFF.alloc (.cells #[.int .i64 line2, .int .i64 j2, .int .i64 cq2, .int .i64 cm_2, .int .u64 a2, .int .u64 p2, .bool found2, .int .i64 tail2, .int .i64 cyc2] 86)).drew
      have kA2 := hA2.cell
      have kC2 := hC2.cell
      have kB2 := hB2.cell
      clear hA kA hX kX hB kB
      go_region_held3 (fun w' => w'.cell? ⟨w6.heap.size, 0, none⟩ = some (.int .i64 line2) ∧ w'.cell? ⟨w6.heap.size, 1, none⟩ = some (.int .i64 j2) ∧ w'.cell? ⟨w6.heap.size, 2, none⟩ = some (.int .i64 cq2) ∧ w'.cell? ⟨w6.heap.size, 3, none⟩ = some (.int .i64 cm_2) ∧ w'.cell? ⟨w6.heap.size, 4, none⟩ = some (.int .u64 a2) ∧ w'.cell? ⟨w6.heap.size, 5, none⟩ = some (.int .u64 p2) ∧ w'.cell? ⟨w6.heap.size, 6, none⟩ = some (.bool found2) ∧ w'.cell? ⟨w6.heap.size, 7, none⟩ = some (.int .i64 tail2) ∧ w'.cell? ⟨w6.heap.size, 8, none⟩ = some (.int .i64 cyc2) ∧ w'.cell? ⟨w7.heap.size, 0, none⟩ = some (.int .i64 line2) ∧ w'.cell? ⟨w7.heap.size, 1, none⟩ = some (.int .i64 j2) ∧ w'.cell? ⟨w7.heap.size, 2, none⟩ = some (.int .i64 cq2) ∧ w'.cell? ⟨w7.heap.size, 3, none⟩ = some (.int .i64 cm_2) ∧ w'.cell? ⟨w7.heap.size, 4, none⟩ = some (.int .u64 a2) ∧ w'.cell? ⟨w7.heap.size, 5, none⟩ = some (.int .u64 p2) ∧ w'.cell? ⟨w7.heap.size, 6, none⟩ = some (.bool found2) ∧ w'.cell? ⟨w7.heap.size, 7, none⟩ = some (.int .i64 tail2) ∧ w'.cell? ⟨w7.heap.size, 8, none⟩ = some (.int .i64 cyc2) ∧ w'.cell? ⟨w.heap.size, 0, none⟩ = some (.int .i64 cc) ∧ w'.cell? ⟨w.heap.size, 1, none⟩ = some (.int .i64 cm) ∧ w'.cell? ⟨w.heap.size, 2, none⟩ = some (.int .i64 cr) ∧ w'.cell? ⟨w.heap.size, 3, none⟩ = some (.int .i64 cg)) (go_keep)
        (first | (go_at_call 66; refine (HAl HH2 HR2).out.mono ?_; rintro e w8 ⟨rfl, hF2⟩; (have hA2 := hA2.kept hF2 List.not_mem_nil); (have kA2 := hA2.cell); (have hC2 := hC2.kept hF2 List.not_mem_nil); (have kC2 := hC2.cell); (have hB2 := hB2.kept hF2 List.not_mem_nil); (have kB2 := hB2.cell); (have HH2 := HH2.kept0 hF2); (have HR2 := HR2.kept0 hF2); (have hFF := hFF.trans hF2)) | (go_at_call 89; refine (HB1.out _).mono ?_; rintro e w8 ⟨rfl, hF2⟩; (have hA2 := hA2.kept hF2 List.not_mem_nil); (have kA2 := hA2.cell); (have hC2 := hC2.kept hF2 List.not_mem_nil); (have kC2 := hC2.cell); (have hB2 := hB2.kept hF2 List.not_mem_nil); (have kB2 := hB2.cell); (have HH2 := HH2.kept0 hF2); (have HR2 := HR2.kept0 hF2); (have hFF := hFF.trans hF2)) | (go_at_call 90; refine (HB2.out _).mono ?_; rintro e w8 ⟨rfl, hF2⟩; (have hA2 := hA2.kept hF2 List.not_mem_nil); (have kA2 := hA2.cell); (have hC2 := hC2.kept hF2 List.not_mem_nil); (have kC2 := hC2.cell); (have hB2 := hB2.kept hF2 List.not_mem_nil); (have kB2 := hB2.cell); (have HH2 := HH2.kept0 hF2); (have HR2 := HR2.kept0 hF2); (have hFF := hFF.trans hF2)))
      go_wp2
      go_ret
      exact ⟨rfl, hFF⟩
    · have HFa := hid (fun W => far_yes x hnear W)
      clear hx hnear
      obtain ⟨line, j, cq, cm_, a, p, found, tail, cyc⟩ := x
      unfold ColV.val
      obtain ⟨cc, cm, cr, cg⟩ := c
      simp only at g1 g3
      go_enter Try.func22, Try.ntmps22
      have hX := Blk.new (w.alloc (.cells #[.int .i64 cc, .int .i64 cm, .int .i64 cr, .int .i64 cg] 45)) [.int .i64 line, .int .i64 j, .int .i64 cq, .int .i64 cm_, .int .u64 a, .int .u64 p, .bool found, .int .i64 tail, .int .i64 cyc] 86
      have hB := (Blk.new w [.int .i64 cc, .int .i64 cm, .int .i64 cr, .int .i64 cg] 45).alloc (.cells #[.int .i64 line, .int .i64 j, .int .i64 cq, .int .i64 cm_, .int .u64 a, .int .u64 p, .bool found, .int .i64 tail, .int .i64 cyc] 86)
      simp only [World.size_alloc] at hX
      have hFF := ((Fr.refl [] w).alloc (.cells #[.int .i64 cc, .int .i64 cm, .int .i64 cr, .int .i64 cg] 45)).alloc (.cells #[.int .i64 line, .int .i64 j, .int .i64 cq, .int .i64 cm_, .int .u64 a, .int .u64 p, .bool found, .int .i64 tail, .int .i64 cyc] 86)
      have kX := hX.cell
      have kB := hB.cell
      go_wp2_with (first | (go_at_call 82; refine (awake19_any _).mono ?_; rintro e w2 ⟨rfl, hF2⟩; (have hB := hB.kept hF2 (by simp)); (have kB := hB.cell); (have hX := hX.kept hF2 (by simp)); (have kX := hX.cell); (have hFF := hFF.trans hF2)))
      have hX := hX.drew
      have hB := hB.drew
      have hFF := hFF.drew
      have kX := hX.cell
      have kB := hB.cell
      refine wp_region_held_drew (S := (fun w' => w'.cell? ⟨w.heap.size + 1, 0, none⟩ = some (.int .i64 line) ∧ w'.cell? ⟨w.heap.size + 1, 1, none⟩ = some (.int .i64 j) ∧ w'.cell? ⟨w.heap.size + 1, 2, none⟩ = some (.int .i64 cq) ∧ w'.cell? ⟨w.heap.size + 1, 3, none⟩ = some (.int .i64 cm_) ∧ w'.cell? ⟨w.heap.size + 1, 4, none⟩ = some (.int .u64 a) ∧ w'.cell? ⟨w.heap.size + 1, 5, none⟩ = some (.int .u64 p) ∧ w'.cell? ⟨w.heap.size + 1, 6, none⟩ = some (.bool found) ∧ w'.cell? ⟨w.heap.size + 1, 7, none⟩ = some (.int .i64 tail) ∧ w'.cell? ⟨w.heap.size + 1, 8, none⟩ = some (.int .i64 cyc))) (by kernel_rfl) ?_ (fun hHeld => ?_)
      · (try dsimp only); go_keep
      refine wpAnyH_take (i := 0) (v := ?_) rfl (by kernel_rfl) (by kernel_rfl) (by kernel_rfl) (fun _ _ _ h => h) (Or.inl ⟨by rfl, ?_⟩) (by assumption) ?_
      rotate_left
      · intro w hSw; (try dsimp only at hSw); go_simp; first | done | with_reducible rfl
      try simp only [Act.put, List.getElem_toArray, List.getElem_cons_succ, List.getElem_cons_zero, List.setIfInBounds_toArray, List.set_cons_zero, List.set_cons_succ]
      refine wpAnyH_take (i := 2) (v := ?_) rfl (by kernel_rfl) (by kernel_rfl) (by kernel_rfl) (fun _ _ _ h => h) (Or.inl ⟨by rfl, ?_⟩) (by assumption) ?_
      rotate_left
      · intro w hSw; (try dsimp only at hSw); go_simp; first | done | with_reducible rfl
      try simp only [Act.put, List.getElem_toArray, List.getElem_cons_succ, List.getElem_cons_zero, List.setIfInBounds_toArray, List.set_cons_zero, List.set_cons_succ]
      refine wpAnyH_ready (rs := [1]) (by kernel_rfl) (by simp) ?_
      refine AllReadyH.cons rfl (fun K hK => ?_) AllReadyH.nil
      go_simp
      go_at_call 83
      refine (HM1.out _).mono ?_
      rintro e w4 ⟨rfl, hF2⟩
      (have hB := hB.kept hF2 List.not_mem_nil)
      (have kB := hB.cell)
      (have hX := hX.kept hF2 List.not_mem_nil)
      (have kX := hX.cell)
      (have hFF := hFF.trans hF2)
      go_wp2_with fail
      refine hK.out _ _ ?_ (fun hHeld => ?_)
      · (try dsimp only); go_keep
      clear hK K
      try simp only [Act.put, List.getElem_toArray, List.getElem_cons_succ, List.getElem_cons_zero, List.setIfInBounds_toArray, List.set_cons_zero, List.set_cons_succ]
      refine wpAnyH_ready (rs := [3]) (by kernel_rfl) (by simp) ?_
      refine AllReadyH.cons rfl (fun K hK => ?_) AllReadyH.nil
      go_simp
      go_at_call 84
      refine (HM2.out _).mono ?_
      rintro e w4 ⟨rfl, hF2⟩
      (have hB := hB.kept hF2 List.not_mem_nil)
      (have kB := hB.cell)
      (have hX := hX.kept hF2 List.not_mem_nil)
      (have kX := hX.cell)
      (have hFF := hFF.trans hF2)
      go_wp2_with fail
      refine hK.out _ _ ?_ (fun hHeld => ?_)
      · (try dsimp only); go_keep
      clear hK K
      try simp only [Act.put, List.getElem_toArray, List.getElem_cons_succ, List.getElem_cons_zero, List.setIfInBounds_toArray, List.set_cons_zero, List.set_cons_succ]
      refine wpAnyH_take (i := 4) (v := ?_) rfl (by kernel_rfl) (by kernel_rfl) (by kernel_rfl) (fun _ _ _ h => h) (Or.inl ⟨by rfl, ?_⟩) (by assumption) ?_
      rotate_left
      · intro w hSw; (try dsimp only at hSw); go_simp; first | done | with_reducible rfl
      try simp only [Act.put, List.getElem_toArray, List.getElem_cons_succ, List.getElem_cons_zero, List.setIfInBounds_toArray, List.set_cons_zero, List.set_cons_succ]
      refine wpAnyH_take (i := 5) (v := ?_) rfl (by kernel_rfl) (by kernel_rfl) (by kernel_rfl) (fun _ _ _ h => h) (Or.inl ⟨by rfl, ?_⟩) (by assumption) ?_
      rotate_left
      · intro w hSw; (try dsimp only at hSw); go_simp; first | done | with_reducible rfl
      try simp only [Act.put, List.getElem_toArray, List.getElem_cons_succ, List.getElem_cons_zero, List.setIfInBounds_toArray, List.set_cons_zero, List.set_cons_succ]
      refine wpAnyH_take (i := 6) (v := ?_) rfl (by kernel_rfl) (by kernel_rfl) (by kernel_rfl) (fun _ _ _ h => h) (Or.inl ⟨by rfl, ?_⟩) (by assumption) ?_
      rotate_left
      · intro w hSw; (try dsimp only at hSw); go_simp; first | done | with_reducible rfl
      try simp only [Act.put, List.getElem_toArray, List.getElem_cons_succ, List.getElem_cons_zero, List.setIfInBounds_toArray, List.set_cons_zero, List.set_cons_succ]
      refine wpAnyH_take (i := 8) (v := ?_) rfl (by kernel_rfl) (by kernel_rfl) (by kernel_rfl) (fun _ _ _ h => h) (Or.inl ⟨by rfl, ?_⟩) (by assumption) ?_
      rotate_left
      · intro w hSw; (try dsimp only at hSw); go_simp; first | done | with_reducible rfl
      try simp only [Act.put, List.getElem_toArray, List.getElem_cons_succ, List.getElem_cons_zero, List.setIfInBounds_toArray, List.set_cons_zero, List.set_cons_succ]
      refine wpAnyH_ready (rs := [7]) (by kernel_rfl) (by simp) ?_
      refine AllReadyH.cons rfl (fun K hK => ?_) AllReadyH.nil
      go_simp
      go_at_call 85
      refine (HSw.out _).mono ?_
      rintro e w4 ⟨rfl, hF2⟩
      (have hB := hB.kept hF2 List.not_mem_nil)
      (have kB := hB.cell)
      (have hX := hX.kept hF2 List.not_mem_nil)
      (have kX := hX.cell)
      (have hFF := hFF.trans hF2)
      go_wp2_with fail
      refine hK.out _ _ ?_ (fun hHeld => ?_)
      · (try dsimp only); go_keep
      clear hK K
      try simp only [Act.put, List.getElem_toArray, List.getElem_cons_succ, List.getElem_cons_zero, List.setIfInBounds_toArray, List.set_cons_zero, List.set_cons_succ]
      refine wpAnyH_take (i := 9) (v := ?_) rfl (by kernel_rfl) (by kernel_rfl) (by kernel_rfl) (fun _ _ _ h => h) (Or.inl ⟨by rfl, ?_⟩) (by assumption) ?_
      rotate_left
      · intro w hSw; (try dsimp only at hSw); go_simp; first | done | with_reducible rfl
      try simp only [Act.put, List.getElem_toArray, List.getElem_cons_succ, List.getElem_cons_zero, List.setIfInBounds_toArray, List.set_cons_zero, List.set_cons_succ]
      refine wpAnyH_take (i := 10) (v := ?_) rfl (by kernel_rfl) (by kernel_rfl) (by kernel_rfl) (fun _ _ _ h => h) (Or.inl ⟨by rfl, ?_⟩) (by assumption) ?_
      rotate_left
      · intro w hSw; (try dsimp only at hSw); go_simp; first | done | with_reducible rfl
      try simp only [Act.put, List.getElem_toArray, List.getElem_cons_succ, List.getElem_cons_zero, List.setIfInBounds_toArray, List.set_cons_zero, List.set_cons_succ]
      refine wpAnyH_done (by kernel_rfl) ?_ _
      clear HM1 HM2 HSw
      go_wp2_with (first | (go_at_call 62; refine (HBo _ hFF).out.mono ?_; rintro e w5 ⟨⟨h, ab, db, r, rd, cap, ext, rfl, HH, HR, q1, q2, q3, q4, q5, d1, d2, d3, d4, d5, d6⟩, hF2⟩; rw [← hs0.out] at HH HR; (have hXl := hX.lt); (have hX := hX.kept hF2 (by simp)); (have hB := hB.kept hF2 (by simp)); (have nBk : w.heap.size ∉ [h, db] := by simp; omega); (have nBr : w.heap.size ∉ [r, rd] := by simp; omega); (have nX : w.heap.size + 1 ∉ [h, db] := by simp; omega); (have nR : r ∉ [h, db] := by simp; omega); (have nRd : rd ∉ [h, db] := by simp; omega); (have nH : h ∉ [r, rd] := by simp; omega); (have nAb : ab ∉ [r, rd] := by simp; omega); (have nDb : db ∉ [r, rd] := by simp; omega); (have sF := hFF.size); (have hSS := fun i (m : i ∈ [h, db]) (l : i < w.heap.size) => (show i ∈ ([] : List Nat) by simp at m; omega)); (have hST := fun i (m : i ∈ [r, rd]) (l : i < w.heap.size) => (show i ∈ ([] : List Nat) by simp at m; omega)); (have kX := hX.cell); (have hFF := hFF.trans hF2); clear d1 d2 d3 d4 d5 d6 q1 q2 q3 q4 q5 sF) | (go_at_call 63; refine (HFa.out _).mono ?_; rintro e w5 ⟨rfl, hF2⟩; (have HH := HH.kept0 hF2); (have HR := HR.kept0 hF2); (have hX := hX.kept hF2 (by simp)); (have kX := hX.cell); (have hFF := hFF.trans hF2); (have hB := hB.kept hF2 (by simp))) | (go_at_call 86; refine (HN.out _).mono ?_; rintro e w6 ⟨rfl, hF2⟩; (have hX := hX.kept hF2 List.not_mem_nil); (have kX := (hX.alloc (.cells #[.int .i64 line, .int .i64 j, .int .i64 cq, .int .i64 cm_, .int .u64 a, .int .u64 p, .bool found, .int .i64 tail, .int .i64 cyc] 86)).cell); (have kZ := (Blk.new w6 [.int .i64 line, .int .i64 j, .int .i64 cq, .int .i64 cm_, .int .u64 a, .int .u64 p, .bool found, .int .i64 tail, .int .i64 cyc] 86).cell); (have hFF := hFF.trans hF2)))
      go_ret
      exact ⟨rfl, hFF.alloc _⟩
  · have HBo := fun W (f : Fr [] w W) => hid (both_no (w := W) c _ l (hv.kept0 f) hbo hl)
    clear hv hbo hl hwf hx
    obtain ⟨line, j, cq, cm_, a, p, found, tail, cyc⟩ := x
    unfold ColV.val
    obtain ⟨cc, cm, cr, cg⟩ := c
    simp only at g1 g3
    go_enter Try.func22, Try.ntmps22
    have hX := Blk.new (w.alloc (.cells #[.int .i64 cc, .int .i64 cm, .int .i64 cr, .int .i64 cg] 45)) [.int .i64 line, .int .i64 j, .int .i64 cq, .int .i64 cm_, .int .u64 a, .int .u64 p, .bool found, .int .i64 tail, .int .i64 cyc] 86
    have hB := (Blk.new w [.int .i64 cc, .int .i64 cm, .int .i64 cr, .int .i64 cg] 45).alloc (.cells #[.int .i64 line, .int .i64 j, .int .i64 cq, .int .i64 cm_, .int .u64 a, .int .u64 p, .bool found, .int .i64 tail, .int .i64 cyc] 86)
    simp only [World.size_alloc] at hX
    have hFF := ((Fr.refl [] w).alloc (.cells #[.int .i64 cc, .int .i64 cm, .int .i64 cr, .int .i64 cg] 45)).alloc (.cells #[.int .i64 line, .int .i64 j, .int .i64 cq, .int .i64 cm_, .int .u64 a, .int .u64 p, .bool found, .int .i64 tail, .int .i64 cyc] 86)
    have kX := hX.cell
    have kB := hB.cell
    go_wp2_with (first | (go_at_call 82; refine (awake19_any _).mono ?_; rintro e w2 ⟨rfl, hF2⟩; (have hB := hB.kept hF2 (by simp)); (have kB := hB.cell); (have hX := hX.kept hF2 (by simp)); (have kX := hX.cell); (have hFF := hFF.trans hF2)))
    have hX := hX.drew
    have hB := hB.drew
    have hFF := hFF.drew
    have kX := hX.cell
    have kB := hB.cell
    refine wp_region_held_drew (S := (fun w' => w'.cell? ⟨w.heap.size + 1, 0, none⟩ = some (.int .i64 line) ∧ w'.cell? ⟨w.heap.size + 1, 1, none⟩ = some (.int .i64 j) ∧ w'.cell? ⟨w.heap.size + 1, 2, none⟩ = some (.int .i64 cq) ∧ w'.cell? ⟨w.heap.size + 1, 3, none⟩ = some (.int .i64 cm_) ∧ w'.cell? ⟨w.heap.size + 1, 4, none⟩ = some (.int .u64 a) ∧ w'.cell? ⟨w.heap.size + 1, 5, none⟩ = some (.int .u64 p) ∧ w'.cell? ⟨w.heap.size + 1, 6, none⟩ = some (.bool found) ∧ w'.cell? ⟨w.heap.size + 1, 7, none⟩ = some (.int .i64 tail) ∧ w'.cell? ⟨w.heap.size + 1, 8, none⟩ = some (.int .i64 cyc))) (by kernel_rfl) ?_ (fun hHeld => ?_)
    · (try dsimp only); go_keep
    refine wpAnyH_take (i := 0) (v := ?_) rfl (by kernel_rfl) (by kernel_rfl) (by kernel_rfl) (fun _ _ _ h => h) (Or.inl ⟨by rfl, ?_⟩) (by assumption) ?_
    rotate_left
    · intro w hSw; (try dsimp only at hSw); go_simp; first | done | with_reducible rfl
    try simp only [Act.put, List.getElem_toArray, List.getElem_cons_succ, List.getElem_cons_zero, List.setIfInBounds_toArray, List.set_cons_zero, List.set_cons_succ]
    refine wpAnyH_take (i := 2) (v := ?_) rfl (by kernel_rfl) (by kernel_rfl) (by kernel_rfl) (fun _ _ _ h => h) (Or.inl ⟨by rfl, ?_⟩) (by assumption) ?_
    rotate_left
    · intro w hSw; (try dsimp only at hSw); go_simp; first | done | with_reducible rfl
    try simp only [Act.put, List.getElem_toArray, List.getElem_cons_succ, List.getElem_cons_zero, List.setIfInBounds_toArray, List.set_cons_zero, List.set_cons_succ]
    refine wpAnyH_ready (rs := [1]) (by kernel_rfl) (by simp) ?_
    refine AllReadyH.cons rfl (fun K hK => ?_) AllReadyH.nil
    go_simp
    go_at_call 83
    refine (HM1.out _).mono ?_
    rintro e w4 ⟨rfl, hF2⟩
    (have hB := hB.kept hF2 List.not_mem_nil)
    (have kB := hB.cell)
    (have hX := hX.kept hF2 List.not_mem_nil)
    (have kX := hX.cell)
    (have hFF := hFF.trans hF2)
    go_wp2_with fail
    refine hK.out _ _ ?_ (fun hHeld => ?_)
    · (try dsimp only); go_keep
    clear hK K
    try simp only [Act.put, List.getElem_toArray, List.getElem_cons_succ, List.getElem_cons_zero, List.setIfInBounds_toArray, List.set_cons_zero, List.set_cons_succ]
    refine wpAnyH_ready (rs := [3]) (by kernel_rfl) (by simp) ?_
    refine AllReadyH.cons rfl (fun K hK => ?_) AllReadyH.nil
    go_simp
    go_at_call 84
    refine (HM2.out _).mono ?_
    rintro e w4 ⟨rfl, hF2⟩
    (have hB := hB.kept hF2 List.not_mem_nil)
    (have kB := hB.cell)
    (have hX := hX.kept hF2 List.not_mem_nil)
    (have kX := hX.cell)
    (have hFF := hFF.trans hF2)
    go_wp2_with fail
    refine hK.out _ _ ?_ (fun hHeld => ?_)
    · (try dsimp only); go_keep
    clear hK K
    try simp only [Act.put, List.getElem_toArray, List.getElem_cons_succ, List.getElem_cons_zero, List.setIfInBounds_toArray, List.set_cons_zero, List.set_cons_succ]
    refine wpAnyH_take (i := 4) (v := ?_) rfl (by kernel_rfl) (by kernel_rfl) (by kernel_rfl) (fun _ _ _ h => h) (Or.inl ⟨by rfl, ?_⟩) (by assumption) ?_
    rotate_left
    · intro w hSw; (try dsimp only at hSw); go_simp; first | done | with_reducible rfl
    try simp only [Act.put, List.getElem_toArray, List.getElem_cons_succ, List.getElem_cons_zero, List.setIfInBounds_toArray, List.set_cons_zero, List.set_cons_succ]
    refine wpAnyH_take (i := 5) (v := ?_) rfl (by kernel_rfl) (by kernel_rfl) (by kernel_rfl) (fun _ _ _ h => h) (Or.inl ⟨by rfl, ?_⟩) (by assumption) ?_
    rotate_left
    · intro w hSw; (try dsimp only at hSw); go_simp; first | done | with_reducible rfl
    try simp only [Act.put, List.getElem_toArray, List.getElem_cons_succ, List.getElem_cons_zero, List.setIfInBounds_toArray, List.set_cons_zero, List.set_cons_succ]
    refine wpAnyH_take (i := 6) (v := ?_) rfl (by kernel_rfl) (by kernel_rfl) (by kernel_rfl) (fun _ _ _ h => h) (Or.inl ⟨by rfl, ?_⟩) (by assumption) ?_
    rotate_left
    · intro w hSw; (try dsimp only at hSw); go_simp; first | done | with_reducible rfl
    try simp only [Act.put, List.getElem_toArray, List.getElem_cons_succ, List.getElem_cons_zero, List.setIfInBounds_toArray, List.set_cons_zero, List.set_cons_succ]
    refine wpAnyH_take (i := 8) (v := ?_) rfl (by kernel_rfl) (by kernel_rfl) (by kernel_rfl) (fun _ _ _ h => h) (Or.inl ⟨by rfl, ?_⟩) (by assumption) ?_
    rotate_left
    · intro w hSw; (try dsimp only at hSw); go_simp; first | done | with_reducible rfl
    try simp only [Act.put, List.getElem_toArray, List.getElem_cons_succ, List.getElem_cons_zero, List.setIfInBounds_toArray, List.set_cons_zero, List.set_cons_succ]
    refine wpAnyH_ready (rs := [7]) (by kernel_rfl) (by simp) ?_
    refine AllReadyH.cons rfl (fun K hK => ?_) AllReadyH.nil
    go_simp
    go_at_call 85
    refine (HSw.out _).mono ?_
    rintro e w4 ⟨rfl, hF2⟩
    (have hB := hB.kept hF2 List.not_mem_nil)
    (have kB := hB.cell)
    (have hX := hX.kept hF2 List.not_mem_nil)
    (have kX := hX.cell)
    (have hFF := hFF.trans hF2)
    go_wp2_with fail
    refine hK.out _ _ ?_ (fun hHeld => ?_)
    · (try dsimp only); go_keep
    clear hK K
    try simp only [Act.put, List.getElem_toArray, List.getElem_cons_succ, List.getElem_cons_zero, List.setIfInBounds_toArray, List.set_cons_zero, List.set_cons_succ]
    refine wpAnyH_take (i := 9) (v := ?_) rfl (by kernel_rfl) (by kernel_rfl) (by kernel_rfl) (fun _ _ _ h => h) (Or.inl ⟨by rfl, ?_⟩) (by assumption) ?_
    rotate_left
    · intro w hSw; (try dsimp only at hSw); go_simp; first | done | with_reducible rfl
    try simp only [Act.put, List.getElem_toArray, List.getElem_cons_succ, List.getElem_cons_zero, List.setIfInBounds_toArray, List.set_cons_zero, List.set_cons_succ]
    refine wpAnyH_take (i := 10) (v := ?_) rfl (by kernel_rfl) (by kernel_rfl) (by kernel_rfl) (fun _ _ _ h => h) (Or.inl ⟨by rfl, ?_⟩) (by assumption) ?_
    rotate_left
    · intro w hSw; (try dsimp only at hSw); go_simp; first | done | with_reducible rfl
    try simp only [Act.put, List.getElem_toArray, List.getElem_cons_succ, List.getElem_cons_zero, List.setIfInBounds_toArray, List.set_cons_zero, List.set_cons_succ]
    refine wpAnyH_done (by kernel_rfl) ?_ _
    clear HM1 HM2 HSw
    go_wp2_with (first | (go_at_call 62; refine (HBo _ hFF).out.mono ?_; rintro e w5 ⟨rfl, hF2⟩; (have hB := hB.kept hF2 (by simp)); (have kB := hB.cell); (have hX := hX.kept hF2 (by simp)); (have kX := hX.cell); (have hFF := hFF.trans hF2)) | (go_at_call 86; refine (HN.out _).mono ?_; rintro e w6 ⟨rfl, hF2⟩; (have hX := hX.kept hF2 List.not_mem_nil); (have kX := (hX.alloc (.cells #[.int .i64 line, .int .i64 j, .int .i64 cq, .int .i64 cm_, .int .u64 a, .int .u64 p, .bool found, .int .i64 tail, .int .i64 cyc] 86)).cell); (have kZ := (Blk.new w6 [.int .i64 line, .int .i64 j, .int .i64 cq, .int .i64 cm_, .int .u64 a, .int .u64 p, .bool found, .int .i64 tail, .int .i64 cyc] 86).cell); (have hFF := hFF.trans hF2)))
    go_ret
    exact ⟨rfl, hFF.alloc _⟩

set_option maxRecDepth 100000 in
set_option maxHeartbeats 4000000 in
theorem collectorSteps_any_md (c : Cfg) (v : Value) (l : List Int) (x : ColV) (g : x.line = 14) (w : World) (hx : x.Wf) (hv : RdS w v l.length (u64s l)) (hl : l.length ≤ 35184372088832) (hwf : ∀ y, y ∈ l → 0 ≤ y ∧ y < 18446744073709551616) :
    Calls Try.prog 22 #[c.val, v, x.val] w fun e w' => e = .returned (.bool true) ∧ Fr [] w w' := by
  obtain ⟨ua, uc, rfl, hu⟩ := hv.elim
  clear hu
  have HM1 := hid (fun W => cmarks_any x.line x.j x.c x.m x.a x.p x.tail x.cyc x.found W)
  have HM2 := hid (fun W => rcmarks_any x.line x.j x.c x.m x.a x.p x.tail x.cyc x.found W)
  obtain ⟨mk, hmk⟩ : ∃ z, z = cMarks x.line := ⟨_, rfl⟩
  rw [← hmk] at HM1 HM2
  clear hmk
  have HSw := fun W => cswept_any x.line x.j x.c x.m x.a x.p x.tail x.cyc x.found W
  rw [show cSwept x.line x.c = 0 by unfold cSwept; rw [if_neg (by omega), if_pos g]] at HSw
  replace HSw := hid HSw
  have g1 : decide (20 ≤ x.line) = false := by simp; omega
  have g3 : (x.line == 14) = true := by simp; omega
  clear g
  have HN := hid (fun W => colnil_any W x.line x.j x.c x.m x.a x.p x.tail x.cyc x.found)
  by_cases hbo : bothOk c l.length
  · have HBo := fun W (f : Fr [] w W) => hid (both_ok (w := W) hbo.1 hbo.2.1 _ l (hv.kept0 f) hbo.2.2 hwf)
    have HB1 : Hid (∀ W : World, Calls Try.prog 89 #[c.val] W fun e w' => e = .returned (.agg #[.int .i64 1, .int .i64 0, .int .i64 0, .int .i64 0, .int .u64 0, .int .u64 0, .bool false, .int .i64 (c.cells - 1), .int .i64 0]) ∧ Fr [] W w') := fun W => cbegin_any c.cells c.muts c.regs c.globs ⟨by have := hbo.2.1.c0; omega, by have := hbo.2.1.c1; omega⟩ W
    have HB2 : Hid (∀ W : World, Calls Try.prog 90 #[c.val] W fun e w' => e = .returned (.agg #[.int .i64 1, .int .i64 0, .int .i64 0, .int .i64 0, .int .u64 0, .int .u64 0, .bool false, .int .i64 (c.cells - 1), .int .i64 0]) ∧ Fr [] W w') := fun W => rcbegin_any c.cells c.muts c.regs c.globs ⟨by have := hbo.2.1.c0; omega, by have := hbo.2.1.c1; omega⟩ W
    clear hv hbo hl hwf
    obtain ⟨s0, hs0⟩ : ∃ s : HS, s = ⟨c, l, Acc.z⟩ := ⟨_, rfl⟩
    replace hs0 := hid hs0
    by_cases hnear : x.Near
    · have HX := fun {W : World} {h ab db : Nat} (H : HAt W h ab db (s0.doIt (aLoad 0))) => col_load H x hx hnear
      have HY := fun {W : World} {r rd cap : Nat} {ext : List Value} (H : RAt W r rd cap ext s0) => rcol_any H x hx hnear
      have HFa := hid (fun W => far_no x hnear W)
      obtain ⟨res, hres⟩ : ∃ r, r = colM s0 x := ⟨_, rfl⟩
      rw [← hres] at HX HY
      clear hres hnear hx HN
      obtain ⟨⟨line2, j2, cq2, cm_2, a2, p2, found2, tail2, cyc2⟩, fl0, s2⟩ := res
      simp only [ColV.val] at HX HY
      have HAl := fun {W : World} {h ab db r rd cap : Nat} {ext : List Value} (H : HAt W h ab db s2) (R : RAt W r rd cap ext s2) => hid (by have := alike_any H R; simp only [decide_true, Bool.and_self] at this; exact this)
      obtain ⟨line, j, cq, cm_, a, p, found, tail, cyc⟩ := x
      unfold ColV.val
      obtain ⟨cc, cm, cr, cg⟩ := c
      simp only at g1 g3
      go_enter Try.func22, Try.ntmps22
      have hX := Blk.new (w.alloc (.cells #[.int .i64 cc, .int .i64 cm, .int .i64 cr, .int .i64 cg] 45)) [.int .i64 line, .int .i64 j, .int .i64 cq, .int .i64 cm_, .int .u64 a, .int .u64 p, .bool found, .int .i64 tail, .int .i64 cyc] 86
      have hB := (Blk.new w [.int .i64 cc, .int .i64 cm, .int .i64 cr, .int .i64 cg] 45).alloc (.cells #[.int .i64 line, .int .i64 j, .int .i64 cq, .int .i64 cm_, .int .u64 a, .int .u64 p, .bool found, .int .i64 tail, .int .i64 cyc] 86)
      simp only [World.size_alloc] at hX
      have hFF := ((Fr.refl [] w).alloc (.cells #[.int .i64 cc, .int .i64 cm, .int .i64 cr, .int .i64 cg] 45)).alloc (.cells #[.int .i64 line, .int .i64 j, .int .i64 cq, .int .i64 cm_, .int .u64 a, .int .u64 p, .bool found, .int .i64 tail, .int .i64 cyc] 86)
      have kX := hX.cell
      have kB := hB.cell
      go_wp2_with (first | (go_at_call 82; refine (awake19_any _).mono ?_; rintro e w2 ⟨rfl, hF2⟩; (have hB := hB.kept hF2 (by simp)); (have kB := hB.cell); (have hX := hX.kept hF2 (by simp)); (have kX := hX.cell); (have hFF := hFF.trans hF2)))
      have hX := hX.drew
      have hB := hB.drew
      have hFF := hFF.drew
      have kX := hX.cell
      have kB := hB.cell
      refine wp_region_held_drew (S := (fun w' => w'.cell? ⟨w.heap.size + 1, 0, none⟩ = some (.int .i64 line) ∧ w'.cell? ⟨w.heap.size + 1, 1, none⟩ = some (.int .i64 j) ∧ w'.cell? ⟨w.heap.size + 1, 2, none⟩ = some (.int .i64 cq) ∧ w'.cell? ⟨w.heap.size + 1, 3, none⟩ = some (.int .i64 cm_) ∧ w'.cell? ⟨w.heap.size + 1, 4, none⟩ = some (.int .u64 a) ∧ w'.cell? ⟨w.heap.size + 1, 5, none⟩ = some (.int .u64 p) ∧ w'.cell? ⟨w.heap.size + 1, 6, none⟩ = some (.bool found) ∧ w'.cell? ⟨w.heap.size + 1, 7, none⟩ = some (.int .i64 tail) ∧ w'.cell? ⟨w.heap.size + 1, 8, none⟩ = some (.int .i64 cyc))) (by kernel_rfl) ?_ (fun hHeld => ?_)
      · (try dsimp only); go_keep
      refine wpAnyH_take (i := 0) (v := ?_) rfl (by kernel_rfl) (by kernel_rfl) (by kernel_rfl) (fun _ _ _ h => h) (Or.inl ⟨by rfl, ?_⟩) (by assumption) ?_
      rotate_left
      · intro w hSw; (try dsimp only at hSw); go_simp; first | done | with_reducible rfl
      try simp only [Act.put, List.getElem_toArray, List.getElem_cons_succ, List.getElem_cons_zero, List.setIfInBounds_toArray, List.set_cons_zero, List.set_cons_succ]
      refine wpAnyH_take (i := 2) (v := ?_) rfl (by kernel_rfl) (by kernel_rfl) (by kernel_rfl) (fun _ _ _ h => h) (Or.inl ⟨by rfl, ?_⟩) (by assumption) ?_
      rotate_left
      · intro w hSw; (try dsimp only at hSw); go_simp; first | done | with_reducible rfl
      try simp only [Act.put, List.getElem_toArray, List.getElem_cons_succ, List.getElem_cons_zero, List.setIfInBounds_toArray, List.set_cons_zero, List.set_cons_succ]
      refine wpAnyH_ready (rs := [1]) (by kernel_rfl) (by simp) ?_
      refine AllReadyH.cons rfl (fun K hK => ?_) AllReadyH.nil
      go_simp
      go_at_call 83
      refine (HM1.out _).mono ?_
      rintro e w4 ⟨rfl, hF2⟩
      (have hB := hB.kept hF2 List.not_mem_nil)
      (have kB := hB.cell)
      (have hX := hX.kept hF2 List.not_mem_nil)
      (have kX := hX.cell)
      (have hFF := hFF.trans hF2)
      go_wp2_with fail
      refine hK.out _ _ ?_ (fun hHeld => ?_)
      · (try dsimp only); go_keep
      clear hK K
      try simp only [Act.put, List.getElem_toArray, List.getElem_cons_succ, List.getElem_cons_zero, List.setIfInBounds_toArray, List.set_cons_zero, List.set_cons_succ]
      refine wpAnyH_ready (rs := [3]) (by kernel_rfl) (by simp) ?_
      refine AllReadyH.cons rfl (fun K hK => ?_) AllReadyH.nil
      go_simp
      go_at_call 84
      refine (HM2.out _).mono ?_
      rintro e w4 ⟨rfl, hF2⟩
      (have hB := hB.kept hF2 List.not_mem_nil)
      (have kB := hB.cell)
      (have hX := hX.kept hF2 List.not_mem_nil)
      (have kX := hX.cell)
      (have hFF := hFF.trans hF2)
      go_wp2_with fail
      refine hK.out _ _ ?_ (fun hHeld => ?_)
      · (try dsimp only); go_keep
      clear hK K
      try simp only [Act.put, List.getElem_toArray, List.getElem_cons_succ, List.getElem_cons_zero, List.setIfInBounds_toArray, List.set_cons_zero, List.set_cons_succ]
      refine wpAnyH_take (i := 4) (v := ?_) rfl (by kernel_rfl) (by kernel_rfl) (by kernel_rfl) (fun _ _ _ h => h) (Or.inl ⟨by rfl, ?_⟩) (by assumption) ?_
      rotate_left
      · intro w hSw; (try dsimp only at hSw); go_simp; first | done | with_reducible rfl
      try simp only [Act.put, List.getElem_toArray, List.getElem_cons_succ, List.getElem_cons_zero, List.setIfInBounds_toArray, List.set_cons_zero, List.set_cons_succ]
      refine wpAnyH_take (i := 5) (v := ?_) rfl (by kernel_rfl) (by kernel_rfl) (by kernel_rfl) (fun _ _ _ h => h) (Or.inl ⟨by rfl, ?_⟩) (by assumption) ?_
      rotate_left
      · intro w hSw; (try dsimp only at hSw); go_simp; first | done | with_reducible rfl
      try simp only [Act.put, List.getElem_toArray, List.getElem_cons_succ, List.getElem_cons_zero, List.setIfInBounds_toArray, List.set_cons_zero, List.set_cons_succ]
      refine wpAnyH_take (i := 6) (v := ?_) rfl (by kernel_rfl) (by kernel_rfl) (by kernel_rfl) (fun _ _ _ h => h) (Or.inl ⟨by rfl, ?_⟩) (by assumption) ?_
      rotate_left
      · intro w hSw; (try dsimp only at hSw); go_simp; first | done | with_reducible rfl
      try simp only [Act.put, List.getElem_toArray, List.getElem_cons_succ, List.getElem_cons_zero, List.setIfInBounds_toArray, List.set_cons_zero, List.set_cons_succ]
      refine wpAnyH_take (i := 8) (v := ?_) rfl (by kernel_rfl) (by kernel_rfl) (by kernel_rfl) (fun _ _ _ h => h) (Or.inl ⟨by rfl, ?_⟩) (by assumption) ?_
      rotate_left
      · intro w hSw; (try dsimp only at hSw); go_simp; first | done | with_reducible rfl
      try simp only [Act.put, List.getElem_toArray, List.getElem_cons_succ, List.getElem_cons_zero, List.setIfInBounds_toArray, List.set_cons_zero, List.set_cons_succ]
      refine wpAnyH_ready (rs := [7]) (by kernel_rfl) (by simp) ?_
      refine AllReadyH.cons rfl (fun K hK => ?_) AllReadyH.nil
      go_simp
      go_at_call 85
      refine (HSw.out _).mono ?_
      rintro e w4 ⟨rfl, hF2⟩
      (have hB := hB.kept hF2 List.not_mem_nil)
      (have kB := hB.cell)
      (have hX := hX.kept hF2 List.not_mem_nil)
      (have kX := hX.cell)
      (have hFF := hFF.trans hF2)
      go_wp2_with fail
      refine hK.out _ _ ?_ (fun hHeld => ?_)
      · (try dsimp only); go_keep
      clear hK K
      try simp only [Act.put, List.getElem_toArray, List.getElem_cons_succ, List.getElem_cons_zero, List.setIfInBounds_toArray, List.set_cons_zero, List.set_cons_succ]
      refine wpAnyH_take (i := 9) (v := ?_) rfl (by kernel_rfl) (by kernel_rfl) (by kernel_rfl) (fun _ _ _ h => h) (Or.inl ⟨by rfl, ?_⟩) (by assumption) ?_
      rotate_left
      · intro w hSw; (try dsimp only at hSw); go_simp; first | done | with_reducible rfl
      try simp only [Act.put, List.getElem_toArray, List.getElem_cons_succ, List.getElem_cons_zero, List.setIfInBounds_toArray, List.set_cons_zero, List.set_cons_succ]
      refine wpAnyH_take (i := 10) (v := ?_) rfl (by kernel_rfl) (by kernel_rfl) (by kernel_rfl) (fun _ _ _ h => h) (Or.inl ⟨by rfl, ?_⟩) (by assumption) ?_
      rotate_left
      · intro w hSw; (try dsimp only at hSw); go_simp; first | done | with_reducible rfl
      try simp only [Act.put, List.getElem_toArray, List.getElem_cons_succ, List.getElem_cons_zero, List.setIfInBounds_toArray, List.set_cons_zero, List.set_cons_succ]
      refine wpAnyH_done (by kernel_rfl) ?_ _
      clear HM1 HM2 HSw
      go_wp2_with (first | (go_at_call 62; refine (HBo _ hFF).out.mono ?_; rintro e w5 ⟨⟨h, ab, db, r, rd, cap, ext, rfl, HH, HR, q1, q2, q3, q4, q5, d1, d2, d3, d4, d5, d6⟩, hF2⟩; rw [← hs0.out] at HH HR; (have hXl := hX.lt); (have hX := hX.kept hF2 (by simp)); (have hB := hB.kept hF2 (by simp)); (have nBk : w.heap.size ∉ [h, db] := by simp; omega); (have nBr : w.heap.size ∉ [r, rd] := by simp; omega); (have nX : w.heap.size + 1 ∉ [h, db] := by simp; omega); (have nR : r ∉ [h, db] := by simp; omega); (have nRd : rd ∉ [h, db] := by simp; omega); (have nH : h ∉ [r, rd] := by simp; omega); (have nAb : ab ∉ [r, rd] := by simp; omega); (have nDb : db ∉ [r, rd] := by simp; omega); (have sF := hFF.size); (have hSS := fun i (m : i ∈ [h, db]) (l : i < w.heap.size) => (show i ∈ ([] : List Nat) by simp at m; omega)); (have hST := fun i (m : i ∈ [r, rd]) (l : i < w.heap.size) => (show i ∈ ([] : List Nat) by simp at m; omega)); (have kX := hX.cell); (have hFF := hFF.trans hF2); clear d1 d2 d3 d4 d5 d6 q1 q2 q3 q4 q5 sF) | (go_at_call 63; refine (HFa.out _).mono ?_; rintro e w5 ⟨rfl, hF2⟩; (have HH := HH.kept0 hF2); (have HR := HR.kept0 hF2); (have hX := hX.kept hF2 (by simp)); (have kX := hX.cell); (have hFF := hFF.trans hF2); (have hB := hB.kept hF2 (by simp))) | (go_at_call 87; refine (load_u rfl HH).mono ?_; rintro e w9 ⟨rfl, HH, hF2⟩; (have HR := HR.kept hF2 nR nRd); (have hX := hX.kept hF2 nX); (have kX := hX.cell); (have hFF := hFF.trans_new hF2 hSS); (have hB := hB.kept hF2 nBk)) | (go_at_call 86; refine (HX HH).mono ?_; rintro e w6 ⟨rfl, HH2, hF2⟩; (have HR := HR.kept hF2 nR nRd); (have hX := hX.kept hF2 nX); (have kX := (hX.alloc (.cells #[.int .i64 line2, .int .i64 j2, .int .i64 cq2, .int .i64 cm_2, .int .u64 a2, .int .u64 p2, .bool found2, .int .i64 tail2, .int .i64 cyc2] 86)).cell); (have hFF := hFF.trans_new hF2 hSS); (have hB := hB.kept hF2 nBk)) | (go_at_call 88; refine (HY (HR.alloc _)).mono ?_; rintro e w7 ⟨rfl, HR2, hF2⟩; (have HH2 := (HH2.alloc _).kept hF2 nH nAb nDb); (have nA : w6.heap.size ∉ [r, rd] := by have := HR.blk.lt; have := HR.ar.dat.lt; simp; omega); (have hA := (Blk.new w6 [.int .i64 line2, .int .i64 j2, .int .i64 cq2, .int .i64 cm_2, .int .u64 a2, .int .u64 p2, .bool found2, .int .i64 tail2, .int .i64 cyc2] 86).kept hF2 nA); (have kA := (hA.alloc (.cells #[.int .i64 line2, .int .i64 j2, .int .i64 cq2, .int .i64 cm_2, .int .u64 a2, .int .u64 p2, .bool found2, .int .i64 tail2, .int .i64 cyc2] 86)).cell); (have hFF := (hFF.alloc _).trans_new hF2 hST); (have hB := (hB.alloc _).kept hF2 nBr)))
      have HH2 := (HH2.alloc (.cells #[.int .i64 line2, .int .i64 j2, .int .i64 cq2, .int .i64 cm_2, .int .u64 a2, .int .u64 p2, .bool found2, .int .i64 tail2, .int .i64 cyc2] 86)).drew
      have HR2 := (HR2.alloc (.cells #[.int .i64 line2, .int .i64 j2, .int .i64 cq2, .int .i64 cm_2, .int .u64 a2, .int .u64 p2, .bool found2, .int .i64 tail2, .int .i64 cyc2] 86)).drew
      have hA2 := (hA.alloc (.cells #[.int .i64 line2, .int .i64 j2, .int .i64 cq2, .int .i64 cm_2, .int .u64 a2, .int .u64 p2, .bool found2, .int .i64 tail2, .int .i64 cyc2] 86)).drew
      have hC2 := (Blk.new w7 [.int .i64 line2, .int .i64 j2, .int .i64 cq2, .int .i64 cm_2, .int .u64 a2, .int .u64 p2, .bool found2, .int .i64 tail2, .int .i64 cyc2] 86).drew
      have hB2 := (hB.alloc (.cells #[.int .i64 line2, .int .i64 j2, .int .i64 cq2, .int .i64 cm_2, .int .u64 a2, .int .u64 p2, .bool found2, .int .i64 tail2, .int .i64 cyc2] 86)).drew
      have hFF := (hFF.alloc (.cells #[.int .i64 line2, .int .i64 j2, .int .i64 cq2, .int .i64 cm_2, .int .u64 a2, .int .u64 p2, .bool found2, .int .i64 tail2, .int .i64 cyc2] 86)).drew
      have kA2 := hA2.cell
      have kC2 := hC2.cell
      have kB2 := hB2.cell
      clear hA kA hX kX hB kB
      go_region_held3 (fun w' => w'.cell? ⟨w6.heap.size, 0, none⟩ = some (.int .i64 line2) ∧ w'.cell? ⟨w6.heap.size, 1, none⟩ = some (.int .i64 j2) ∧ w'.cell? ⟨w6.heap.size, 2, none⟩ = some (.int .i64 cq2) ∧ w'.cell? ⟨w6.heap.size, 3, none⟩ = some (.int .i64 cm_2) ∧ w'.cell? ⟨w6.heap.size, 4, none⟩ = some (.int .u64 a2) ∧ w'.cell? ⟨w6.heap.size, 5, none⟩ = some (.int .u64 p2) ∧ w'.cell? ⟨w6.heap.size, 6, none⟩ = some (.bool found2) ∧ w'.cell? ⟨w6.heap.size, 7, none⟩ = some (.int .i64 tail2) ∧ w'.cell? ⟨w6.heap.size, 8, none⟩ = some (.int .i64 cyc2) ∧ w'.cell? ⟨w7.heap.size, 0, none⟩ = some (.int .i64 line2) ∧ w'.cell? ⟨w7.heap.size, 1, none⟩ = some (.int .i64 j2) ∧ w'.cell? ⟨w7.heap.size, 2, none⟩ = some (.int .i64 cq2) ∧ w'.cell? ⟨w7.heap.size, 3, none⟩ = some (.int .i64 cm_2) ∧ w'.cell? ⟨w7.heap.size, 4, none⟩ = some (.int .u64 a2) ∧ w'.cell? ⟨w7.heap.size, 5, none⟩ = some (.int .u64 p2) ∧ w'.cell? ⟨w7.heap.size, 6, none⟩ = some (.bool found2) ∧ w'.cell? ⟨w7.heap.size, 7, none⟩ = some (.int .i64 tail2) ∧ w'.cell? ⟨w7.heap.size, 8, none⟩ = some (.int .i64 cyc2) ∧ w'.cell? ⟨w.heap.size, 0, none⟩ = some (.int .i64 cc) ∧ w'.cell? ⟨w.heap.size, 1, none⟩ = some (.int .i64 cm) ∧ w'.cell? ⟨w.heap.size, 2, none⟩ = some (.int .i64 cr) ∧ w'.cell? ⟨w.heap.size, 3, none⟩ = some (.int .i64 cg)) (go_keep)
        (first | (go_at_call 66; refine (HAl HH2 HR2).out.mono ?_; rintro e w8 ⟨rfl, hF2⟩; (have hA2 := hA2.kept hF2 List.not_mem_nil); (have kA2 := hA2.cell); (have hC2 := hC2.kept hF2 List.not_mem_nil); (have kC2 := hC2.cell); (have hB2 := hB2.kept hF2 List.not_mem_nil); (have kB2 := hB2.cell); (have HH2 := HH2.kept0 hF2); (have HR2 := HR2.kept0 hF2); (have hFF := hFF.trans hF2)) | (go_at_call 89; refine (HB1.out _).mono ?_; rintro e w8 ⟨rfl, hF2⟩; (have hA2 := hA2.kept hF2 List.not_mem_nil); (have kA2 := hA2.cell); (have hC2 := hC2.kept hF2 List.not_mem_nil); (have kC2 := hC2.cell); (have hB2 := hB2.kept hF2 List.not_mem_nil); (have kB2 := hB2.cell); (have HH2 := HH2.kept0 hF2); (have HR2 := HR2.kept0 hF2); (have hFF := hFF.trans hF2)) | (go_at_call 90; refine (HB2.out _).mono ?_; rintro e w8 ⟨rfl, hF2⟩; (have hA2 := hA2.kept hF2 List.not_mem_nil); (have kA2 := hA2.cell); (have hC2 := hC2.kept hF2 List.not_mem_nil); (have kC2 := hC2.cell); (have hB2 := hB2.kept hF2 List.not_mem_nil); (have kB2 := hB2.cell); (have HH2 := HH2.kept0 hF2); (have HR2 := HR2.kept0 hF2); (have hFF := hFF.trans hF2)))
      go_wp2
      go_ret
      exact ⟨rfl, hFF⟩
    · have HFa := hid (fun W => far_yes x hnear W)
      clear hx hnear
      obtain ⟨line, j, cq, cm_, a, p, found, tail, cyc⟩ := x
      unfold ColV.val
      obtain ⟨cc, cm, cr, cg⟩ := c
      simp only at g1 g3
      go_enter Try.func22, Try.ntmps22
      have hX := Blk.new (w.alloc (.cells #[.int .i64 cc, .int .i64 cm, .int .i64 cr, .int .i64 cg] 45)) [.int .i64 line, .int .i64 j, .int .i64 cq, .int .i64 cm_, .int .u64 a, .int .u64 p, .bool found, .int .i64 tail, .int .i64 cyc] 86
      have hB := (Blk.new w [.int .i64 cc, .int .i64 cm, .int .i64 cr, .int .i64 cg] 45).alloc (.cells #[.int .i64 line, .int .i64 j, .int .i64 cq, .int .i64 cm_, .int .u64 a, .int .u64 p, .bool found, .int .i64 tail, .int .i64 cyc] 86)
      simp only [World.size_alloc] at hX
      have hFF := ((Fr.refl [] w).alloc (.cells #[.int .i64 cc, .int .i64 cm, .int .i64 cr, .int .i64 cg] 45)).alloc (.cells #[.int .i64 line, .int .i64 j, .int .i64 cq, .int .i64 cm_, .int .u64 a, .int .u64 p, .bool found, .int .i64 tail, .int .i64 cyc] 86)
      have kX := hX.cell
      have kB := hB.cell
      go_wp2_with (first | (go_at_call 82; refine (awake19_any _).mono ?_; rintro e w2 ⟨rfl, hF2⟩; (have hB := hB.kept hF2 (by simp)); (have kB := hB.cell); (have hX := hX.kept hF2 (by simp)); (have kX := hX.cell); (have hFF := hFF.trans hF2)))
      have hX := hX.drew
      have hB := hB.drew
      have hFF := hFF.drew
      have kX := hX.cell
      have kB := hB.cell
      refine wp_region_held_drew (S := (fun w' => w'.cell? ⟨w.heap.size + 1, 0, none⟩ = some (.int .i64 line) ∧ w'.cell? ⟨w.heap.size + 1, 1, none⟩ = some (.int .i64 j) ∧ w'.cell? ⟨w.heap.size + 1, 2, none⟩ = some (.int .i64 cq) ∧ w'.cell? ⟨w.heap.size + 1, 3, none⟩ = some (.int .i64 cm_) ∧ w'.cell? ⟨w.heap.size + 1, 4, none⟩ = some (.int .u64 a) ∧ w'.cell? ⟨w.heap.size + 1, 5, none⟩ = some (.int .u64 p) ∧ w'.cell? ⟨w.heap.size + 1, 6, none⟩ = some (.bool found) ∧ w'.cell? ⟨w.heap.size + 1, 7, none⟩ = some (.int .i64 tail) ∧ w'.cell? ⟨w.heap.size + 1, 8, none⟩ = some (.int .i64 cyc))) (by kernel_rfl) ?_ (fun hHeld => ?_)
      · (try dsimp only); go_keep
      refine wpAnyH_take (i := 0) (v := ?_) rfl (by kernel_rfl) (by kernel_rfl) (by kernel_rfl) (fun _ _ _ h => h) (Or.inl ⟨by rfl, ?_⟩) (by assumption) ?_
      rotate_left
      · intro w hSw; (try dsimp only at hSw); go_simp; first | done | with_reducible rfl
      try simp only [Act.put, List.getElem_toArray, List.getElem_cons_succ, List.getElem_cons_zero, List.setIfInBounds_toArray, List.set_cons_zero, List.set_cons_succ]
      refine wpAnyH_take (i := 2) (v := ?_) rfl (by kernel_rfl) (by kernel_rfl) (by kernel_rfl) (fun _ _ _ h => h) (Or.inl ⟨by rfl, ?_⟩) (by assumption) ?_
      rotate_left
      · intro w hSw; (try dsimp only at hSw); go_simp; first | done | with_reducible rfl
      try simp only [Act.put, List.getElem_toArray, List.getElem_cons_succ, List.getElem_cons_zero, List.setIfInBounds_toArray, List.set_cons_zero, List.set_cons_succ]
      refine wpAnyH_ready (rs := [1]) (by kernel_rfl) (by simp) ?_
      refine AllReadyH.cons rfl (fun K hK => ?_) AllReadyH.nil
      go_simp
      go_at_call 83
      refine (HM1.out _).mono ?_
      rintro e w4 ⟨rfl, hF2⟩
      (have hB := hB.kept hF2 List.not_mem_nil)
      (have kB := hB.cell)
      (have hX := hX.kept hF2 List.not_mem_nil)
      (have kX := hX.cell)
      (have hFF := hFF.trans hF2)
      go_wp2_with fail
      refine hK.out _ _ ?_ (fun hHeld => ?_)
      · (try dsimp only); go_keep
      clear hK K
      try simp only [Act.put, List.getElem_toArray, List.getElem_cons_succ, List.getElem_cons_zero, List.setIfInBounds_toArray, List.set_cons_zero, List.set_cons_succ]
      refine wpAnyH_ready (rs := [3]) (by kernel_rfl) (by simp) ?_
      refine AllReadyH.cons rfl (fun K hK => ?_) AllReadyH.nil
      go_simp
      go_at_call 84
      refine (HM2.out _).mono ?_
      rintro e w4 ⟨rfl, hF2⟩
      (have hB := hB.kept hF2 List.not_mem_nil)
      (have kB := hB.cell)
      (have hX := hX.kept hF2 List.not_mem_nil)
      (have kX := hX.cell)
      (have hFF := hFF.trans hF2)
      go_wp2_with fail
      refine hK.out _ _ ?_ (fun hHeld => ?_)
      · (try dsimp only); go_keep
      clear hK K
      try simp only [Act.put, List.getElem_toArray, List.getElem_cons_succ, List.getElem_cons_zero, List.setIfInBounds_toArray, List.set_cons_zero, List.set_cons_succ]
      refine wpAnyH_take (i := 4) (v := ?_) rfl (by kernel_rfl) (by kernel_rfl) (by kernel_rfl) (fun _ _ _ h => h) (Or.inl ⟨by rfl, ?_⟩) (by assumption) ?_
      rotate_left
      · intro w hSw; (try dsimp only at hSw); go_simp; first | done | with_reducible rfl
      try simp only [Act.put, List.getElem_toArray, List.getElem_cons_succ, List.getElem_cons_zero, List.setIfInBounds_toArray, List.set_cons_zero, List.set_cons_succ]
      refine wpAnyH_take (i := 5) (v := ?_) rfl (by kernel_rfl) (by kernel_rfl) (by kernel_rfl) (fun _ _ _ h => h) (Or.inl ⟨by rfl, ?_⟩) (by assumption) ?_
      rotate_left
      · intro w hSw; (try dsimp only at hSw); go_simp; first | done | with_reducible rfl
      try simp only [Act.put, List.getElem_toArray, List.getElem_cons_succ, List.getElem_cons_zero, List.setIfInBounds_toArray, List.set_cons_zero, List.set_cons_succ]
      refine wpAnyH_take (i := 6) (v := ?_) rfl (by kernel_rfl) (by kernel_rfl) (by kernel_rfl) (fun _ _ _ h => h) (Or.inl ⟨by rfl, ?_⟩) (by assumption) ?_
      rotate_left
      · intro w hSw; (try dsimp only at hSw); go_simp; first | done | with_reducible rfl
      try simp only [Act.put, List.getElem_toArray, List.getElem_cons_succ, List.getElem_cons_zero, List.setIfInBounds_toArray, List.set_cons_zero, List.set_cons_succ]
      refine wpAnyH_take (i := 8) (v := ?_) rfl (by kernel_rfl) (by kernel_rfl) (by kernel_rfl) (fun _ _ _ h => h) (Or.inl ⟨by rfl, ?_⟩) (by assumption) ?_
      rotate_left
      · intro w hSw; (try dsimp only at hSw); go_simp; first | done | with_reducible rfl
      try simp only [Act.put, List.getElem_toArray, List.getElem_cons_succ, List.getElem_cons_zero, List.setIfInBounds_toArray, List.set_cons_zero, List.set_cons_succ]
      refine wpAnyH_ready (rs := [7]) (by kernel_rfl) (by simp) ?_
      refine AllReadyH.cons rfl (fun K hK => ?_) AllReadyH.nil
      go_simp
      go_at_call 85
      refine (HSw.out _).mono ?_
      rintro e w4 ⟨rfl, hF2⟩
      (have hB := hB.kept hF2 List.not_mem_nil)
      (have kB := hB.cell)
      (have hX := hX.kept hF2 List.not_mem_nil)
      (have kX := hX.cell)
      (have hFF := hFF.trans hF2)
      go_wp2_with fail
      refine hK.out _ _ ?_ (fun hHeld => ?_)
      · (try dsimp only); go_keep
      clear hK K
      try simp only [Act.put, List.getElem_toArray, List.getElem_cons_succ, List.getElem_cons_zero, List.setIfInBounds_toArray, List.set_cons_zero, List.set_cons_succ]
      refine wpAnyH_take (i := 9) (v := ?_) rfl (by kernel_rfl) (by kernel_rfl) (by kernel_rfl) (fun _ _ _ h => h) (Or.inl ⟨by rfl, ?_⟩) (by assumption) ?_
      rotate_left
      · intro w hSw; (try dsimp only at hSw); go_simp; first | done | with_reducible rfl
      try simp only [Act.put, List.getElem_toArray, List.getElem_cons_succ, List.getElem_cons_zero, List.setIfInBounds_toArray, List.set_cons_zero, List.set_cons_succ]
      refine wpAnyH_take (i := 10) (v := ?_) rfl (by kernel_rfl) (by kernel_rfl) (by kernel_rfl) (fun _ _ _ h => h) (Or.inl ⟨by rfl, ?_⟩) (by assumption) ?_
      rotate_left
      · intro w hSw; (try dsimp only at hSw); go_simp; first | done | with_reducible rfl
      try simp only [Act.put, List.getElem_toArray, List.getElem_cons_succ, List.getElem_cons_zero, List.setIfInBounds_toArray, List.set_cons_zero, List.set_cons_succ]
      refine wpAnyH_done (by kernel_rfl) ?_ _
      clear HM1 HM2 HSw
      go_wp2_with (first | (go_at_call 62; refine (HBo _ hFF).out.mono ?_; rintro e w5 ⟨⟨h, ab, db, r, rd, cap, ext, rfl, HH, HR, q1, q2, q3, q4, q5, d1, d2, d3, d4, d5, d6⟩, hF2⟩; rw [← hs0.out] at HH HR; (have hXl := hX.lt); (have hX := hX.kept hF2 (by simp)); (have hB := hB.kept hF2 (by simp)); (have nBk : w.heap.size ∉ [h, db] := by simp; omega); (have nBr : w.heap.size ∉ [r, rd] := by simp; omega); (have nX : w.heap.size + 1 ∉ [h, db] := by simp; omega); (have nR : r ∉ [h, db] := by simp; omega); (have nRd : rd ∉ [h, db] := by simp; omega); (have nH : h ∉ [r, rd] := by simp; omega); (have nAb : ab ∉ [r, rd] := by simp; omega); (have nDb : db ∉ [r, rd] := by simp; omega); (have sF := hFF.size); (have hSS := fun i (m : i ∈ [h, db]) (l : i < w.heap.size) => (show i ∈ ([] : List Nat) by simp at m; omega)); (have hST := fun i (m : i ∈ [r, rd]) (l : i < w.heap.size) => (show i ∈ ([] : List Nat) by simp at m; omega)); (have kX := hX.cell); (have hFF := hFF.trans hF2); clear d1 d2 d3 d4 d5 d6 q1 q2 q3 q4 q5 sF) | (go_at_call 63; refine (HFa.out _).mono ?_; rintro e w5 ⟨rfl, hF2⟩; (have HH := HH.kept0 hF2); (have HR := HR.kept0 hF2); (have hX := hX.kept hF2 (by simp)); (have kX := hX.cell); (have hFF := hFF.trans hF2); (have hB := hB.kept hF2 (by simp))) | (go_at_call 86; refine (HN.out _).mono ?_; rintro e w6 ⟨rfl, hF2⟩; (have hX := hX.kept hF2 List.not_mem_nil); (have kX := (hX.alloc (.cells #[.int .i64 line, .int .i64 j, .int .i64 cq, .int .i64 cm_, .int .u64 a, .int .u64 p, .bool found, .int .i64 tail, .int .i64 cyc] 86)).cell); (have kZ := (Blk.new w6 [.int .i64 line, .int .i64 j, .int .i64 cq, .int .i64 cm_, .int .u64 a, .int .u64 p, .bool found, .int .i64 tail, .int .i64 cyc] 86).cell); (have hFF := hFF.trans hF2)))
      go_ret
      exact ⟨rfl, hFF.alloc _⟩
  · have HBo := fun W (f : Fr [] w W) => hid (both_no (w := W) c _ l (hv.kept0 f) hbo hl)
    clear hv hbo hl hwf hx
    obtain ⟨line, j, cq, cm_, a, p, found, tail, cyc⟩ := x
    unfold ColV.val
    obtain ⟨cc, cm, cr, cg⟩ := c
    simp only at g1 g3
    go_enter Try.func22, Try.ntmps22
    have hX := Blk.new (w.alloc (.cells #[.int .i64 cc, .int .i64 cm, .int .i64 cr, .int .i64 cg] 45)) [.int .i64 line, .int .i64 j, .int .i64 cq, .int .i64 cm_, .int .u64 a, .int .u64 p, .bool found, .int .i64 tail, .int .i64 cyc] 86
    have hB := (Blk.new w [.int .i64 cc, .int .i64 cm, .int .i64 cr, .int .i64 cg] 45).alloc (.cells #[.int .i64 line, .int .i64 j, .int .i64 cq, .int .i64 cm_, .int .u64 a, .int .u64 p, .bool found, .int .i64 tail, .int .i64 cyc] 86)
    simp only [World.size_alloc] at hX
    have hFF := ((Fr.refl [] w).alloc (.cells #[.int .i64 cc, .int .i64 cm, .int .i64 cr, .int .i64 cg] 45)).alloc (.cells #[.int .i64 line, .int .i64 j, .int .i64 cq, .int .i64 cm_, .int .u64 a, .int .u64 p, .bool found, .int .i64 tail, .int .i64 cyc] 86)
    have kX := hX.cell
    have kB := hB.cell
    go_wp2_with (first | (go_at_call 82; refine (awake19_any _).mono ?_; rintro e w2 ⟨rfl, hF2⟩; (have hB := hB.kept hF2 (by simp)); (have kB := hB.cell); (have hX := hX.kept hF2 (by simp)); (have kX := hX.cell); (have hFF := hFF.trans hF2)))
    have hX := hX.drew
    have hB := hB.drew
    have hFF := hFF.drew
    have kX := hX.cell
    have kB := hB.cell
    refine wp_region_held_drew (S := (fun w' => w'.cell? ⟨w.heap.size + 1, 0, none⟩ = some (.int .i64 line) ∧ w'.cell? ⟨w.heap.size + 1, 1, none⟩ = some (.int .i64 j) ∧ w'.cell? ⟨w.heap.size + 1, 2, none⟩ = some (.int .i64 cq) ∧ w'.cell? ⟨w.heap.size + 1, 3, none⟩ = some (.int .i64 cm_) ∧ w'.cell? ⟨w.heap.size + 1, 4, none⟩ = some (.int .u64 a) ∧ w'.cell? ⟨w.heap.size + 1, 5, none⟩ = some (.int .u64 p) ∧ w'.cell? ⟨w.heap.size + 1, 6, none⟩ = some (.bool found) ∧ w'.cell? ⟨w.heap.size + 1, 7, none⟩ = some (.int .i64 tail) ∧ w'.cell? ⟨w.heap.size + 1, 8, none⟩ = some (.int .i64 cyc))) (by kernel_rfl) ?_ (fun hHeld => ?_)
    · (try dsimp only); go_keep
    refine wpAnyH_take (i := 0) (v := ?_) rfl (by kernel_rfl) (by kernel_rfl) (by kernel_rfl) (fun _ _ _ h => h) (Or.inl ⟨by rfl, ?_⟩) (by assumption) ?_
    rotate_left
    · intro w hSw; (try dsimp only at hSw); go_simp; first | done | with_reducible rfl
    try simp only [Act.put, List.getElem_toArray, List.getElem_cons_succ, List.getElem_cons_zero, List.setIfInBounds_toArray, List.set_cons_zero, List.set_cons_succ]
    refine wpAnyH_take (i := 2) (v := ?_) rfl (by kernel_rfl) (by kernel_rfl) (by kernel_rfl) (fun _ _ _ h => h) (Or.inl ⟨by rfl, ?_⟩) (by assumption) ?_
    rotate_left
    · intro w hSw; (try dsimp only at hSw); go_simp; first | done | with_reducible rfl
    try simp only [Act.put, List.getElem_toArray, List.getElem_cons_succ, List.getElem_cons_zero, List.setIfInBounds_toArray, List.set_cons_zero, List.set_cons_succ]
    refine wpAnyH_ready (rs := [1]) (by kernel_rfl) (by simp) ?_
    refine AllReadyH.cons rfl (fun K hK => ?_) AllReadyH.nil
    go_simp
    go_at_call 83
    refine (HM1.out _).mono ?_
    rintro e w4 ⟨rfl, hF2⟩
    (have hB := hB.kept hF2 List.not_mem_nil)
    (have kB := hB.cell)
    (have hX := hX.kept hF2 List.not_mem_nil)
    (have kX := hX.cell)
    (have hFF := hFF.trans hF2)
    go_wp2_with fail
    refine hK.out _ _ ?_ (fun hHeld => ?_)
    · (try dsimp only); go_keep
    clear hK K
    try simp only [Act.put, List.getElem_toArray, List.getElem_cons_succ, List.getElem_cons_zero, List.setIfInBounds_toArray, List.set_cons_zero, List.set_cons_succ]
    refine wpAnyH_ready (rs := [3]) (by kernel_rfl) (by simp) ?_
    refine AllReadyH.cons rfl (fun K hK => ?_) AllReadyH.nil
    go_simp
    go_at_call 84
    refine (HM2.out _).mono ?_
    rintro e w4 ⟨rfl, hF2⟩
    (have hB := hB.kept hF2 List.not_mem_nil)
    (have kB := hB.cell)
    (have hX := hX.kept hF2 List.not_mem_nil)
    (have kX := hX.cell)
    (have hFF := hFF.trans hF2)
    go_wp2_with fail
    refine hK.out _ _ ?_ (fun hHeld => ?_)
    · (try dsimp only); go_keep
    clear hK K
    try simp only [Act.put, List.getElem_toArray, List.getElem_cons_succ, List.getElem_cons_zero, List.setIfInBounds_toArray, List.set_cons_zero, List.set_cons_succ]
    refine wpAnyH_take (i := 4) (v := ?_) rfl (by kernel_rfl) (by kernel_rfl) (by kernel_rfl) (fun _ _ _ h => h) (Or.inl ⟨by rfl, ?_⟩) (by assumption) ?_
    rotate_left
    · intro w hSw; (try dsimp only at hSw); go_simp; first | done | with_reducible rfl
    try simp only [Act.put, List.getElem_toArray, List.getElem_cons_succ, List.getElem_cons_zero, List.setIfInBounds_toArray, List.set_cons_zero, List.set_cons_succ]
    refine wpAnyH_take (i := 5) (v := ?_) rfl (by kernel_rfl) (by kernel_rfl) (by kernel_rfl) (fun _ _ _ h => h) (Or.inl ⟨by rfl, ?_⟩) (by assumption) ?_
    rotate_left
    · intro w hSw; (try dsimp only at hSw); go_simp; first | done | with_reducible rfl
    try simp only [Act.put, List.getElem_toArray, List.getElem_cons_succ, List.getElem_cons_zero, List.setIfInBounds_toArray, List.set_cons_zero, List.set_cons_succ]
    refine wpAnyH_take (i := 6) (v := ?_) rfl (by kernel_rfl) (by kernel_rfl) (by kernel_rfl) (fun _ _ _ h => h) (Or.inl ⟨by rfl, ?_⟩) (by assumption) ?_
    rotate_left
    · intro w hSw; (try dsimp only at hSw); go_simp; first | done | with_reducible rfl
    try simp only [Act.put, List.getElem_toArray, List.getElem_cons_succ, List.getElem_cons_zero, List.setIfInBounds_toArray, List.set_cons_zero, List.set_cons_succ]
    refine wpAnyH_take (i := 8) (v := ?_) rfl (by kernel_rfl) (by kernel_rfl) (by kernel_rfl) (fun _ _ _ h => h) (Or.inl ⟨by rfl, ?_⟩) (by assumption) ?_
    rotate_left
    · intro w hSw; (try dsimp only at hSw); go_simp; first | done | with_reducible rfl
    try simp only [Act.put, List.getElem_toArray, List.getElem_cons_succ, List.getElem_cons_zero, List.setIfInBounds_toArray, List.set_cons_zero, List.set_cons_succ]
    refine wpAnyH_ready (rs := [7]) (by kernel_rfl) (by simp) ?_
    refine AllReadyH.cons rfl (fun K hK => ?_) AllReadyH.nil
    go_simp
    go_at_call 85
    refine (HSw.out _).mono ?_
    rintro e w4 ⟨rfl, hF2⟩
    (have hB := hB.kept hF2 List.not_mem_nil)
    (have kB := hB.cell)
    (have hX := hX.kept hF2 List.not_mem_nil)
    (have kX := hX.cell)
    (have hFF := hFF.trans hF2)
    go_wp2_with fail
    refine hK.out _ _ ?_ (fun hHeld => ?_)
    · (try dsimp only); go_keep
    clear hK K
    try simp only [Act.put, List.getElem_toArray, List.getElem_cons_succ, List.getElem_cons_zero, List.setIfInBounds_toArray, List.set_cons_zero, List.set_cons_succ]
    refine wpAnyH_take (i := 9) (v := ?_) rfl (by kernel_rfl) (by kernel_rfl) (by kernel_rfl) (fun _ _ _ h => h) (Or.inl ⟨by rfl, ?_⟩) (by assumption) ?_
    rotate_left
    · intro w hSw; (try dsimp only at hSw); go_simp; first | done | with_reducible rfl
    try simp only [Act.put, List.getElem_toArray, List.getElem_cons_succ, List.getElem_cons_zero, List.setIfInBounds_toArray, List.set_cons_zero, List.set_cons_succ]
    refine wpAnyH_take (i := 10) (v := ?_) rfl (by kernel_rfl) (by kernel_rfl) (by kernel_rfl) (fun _ _ _ h => h) (Or.inl ⟨by rfl, ?_⟩) (by assumption) ?_
    rotate_left
    · intro w hSw; (try dsimp only at hSw); go_simp; first | done | with_reducible rfl
    try simp only [Act.put, List.getElem_toArray, List.getElem_cons_succ, List.getElem_cons_zero, List.setIfInBounds_toArray, List.set_cons_zero, List.set_cons_succ]
    refine wpAnyH_done (by kernel_rfl) ?_ _
    clear HM1 HM2 HSw
    go_wp2_with (first | (go_at_call 62; refine (HBo _ hFF).out.mono ?_; rintro e w5 ⟨rfl, hF2⟩; (have hB := hB.kept hF2 (by simp)); (have kB := hB.cell); (have hX := hX.kept hF2 (by simp)); (have kX := hX.cell); (have hFF := hFF.trans hF2)) | (go_at_call 86; refine (HN.out _).mono ?_; rintro e w6 ⟨rfl, hF2⟩; (have hX := hX.kept hF2 List.not_mem_nil); (have kX := (hX.alloc (.cells #[.int .i64 line, .int .i64 j, .int .i64 cq, .int .i64 cm_, .int .u64 a, .int .u64 p, .bool found, .int .i64 tail, .int .i64 cyc] 86)).cell); (have kZ := (Blk.new w6 [.int .i64 line, .int .i64 j, .int .i64 cq, .int .i64 cm_, .int .u64 a, .int .u64 p, .bool found, .int .i64 tail, .int .i64 cyc] 86).cell); (have hFF := hFF.trans hF2)))
    go_ret
    exact ⟨rfl, hFF.alloc _⟩

set_option maxRecDepth 100000 in
set_option maxHeartbeats 4000000 in
theorem collectorSteps_any_in (c : Cfg) (v : Value) (l : List Int) (x : ColV) (g : 20 ≤ x.line ∧ x.line ≤ 24) (w : World) (hx : x.Wf) (hv : RdS w v l.length (u64s l)) (hl : l.length ≤ 35184372088832) (hwf : ∀ y, y ∈ l → 0 ≤ y ∧ y < 18446744073709551616) :
    Calls Try.prog 22 #[c.val, v, x.val] w fun e w' => e = .returned (.bool true) ∧ Fr [] w w' := by
  obtain ⟨ua, uc, rfl, hu⟩ := hv.elim
  clear hu
  have HM1 := hid (fun W => cmarks_any x.line x.j x.c x.m x.a x.p x.tail x.cyc x.found W)
  have HM2 := hid (fun W => rcmarks_any x.line x.j x.c x.m x.a x.p x.tail x.cyc x.found W)
  obtain ⟨mk, hmk⟩ : ∃ z, z = cMarks x.line := ⟨_, rfl⟩
  rw [← hmk] at HM1 HM2
  clear hmk
  have HSw := fun W => cswept_any x.line x.j x.c x.m x.a x.p x.tail x.cyc x.found W
  rw [show cSwept x.line x.c = x.c by unfold cSwept; rw [if_pos g]] at HSw
  replace HSw := hid HSw
  have g1 : decide (20 ≤ x.line) = true := by simp; omega
  have g2 : decide (x.line ≤ 24) = true := by simp; omega
  have g3 : (x.line == 14) = false := by simp; omega
  clear g
  have HN := hid (fun W => colnil_any W x.line x.j x.c x.m x.a x.p x.tail x.cyc x.found)
  by_cases hbo : bothOk c l.length
  · have HBo := fun W (f : Fr [] w W) => hid (both_ok (w := W) hbo.1 hbo.2.1 _ l (hv.kept0 f) hbo.2.2 hwf)
    have HB1 : Hid (∀ W : World, Calls Try.prog 89 #[c.val] W fun e w' => e = .returned (.agg #[.int .i64 1, .int .i64 0, .int .i64 0, .int .i64 0, .int .u64 0, .int .u64 0, .bool false, .int .i64 (c.cells - 1), .int .i64 0]) ∧ Fr [] W w') := fun W => cbegin_any c.cells c.muts c.regs c.globs ⟨by have := hbo.2.1.c0; omega, by have := hbo.2.1.c1; omega⟩ W
    have HB2 : Hid (∀ W : World, Calls Try.prog 90 #[c.val] W fun e w' => e = .returned (.agg #[.int .i64 1, .int .i64 0, .int .i64 0, .int .i64 0, .int .u64 0, .int .u64 0, .bool false, .int .i64 (c.cells - 1), .int .i64 0]) ∧ Fr [] W w') := fun W => rcbegin_any c.cells c.muts c.regs c.globs ⟨by have := hbo.2.1.c0; omega, by have := hbo.2.1.c1; omega⟩ W
    clear hv hbo hl hwf
    obtain ⟨s0, hs0⟩ : ∃ s : HS, s = ⟨c, l, Acc.z⟩ := ⟨_, rfl⟩
    replace hs0 := hid hs0
    by_cases hnear : x.Near
    · have HX := fun {W : World} {h ab db : Nat} (H : HAt W h ab db (s0.doIt (aLoad 0))) => col_load H x hx hnear
      have HY := fun {W : World} {r rd cap : Nat} {ext : List Value} (H : RAt W r rd cap ext s0) => rcol_any H x hx hnear
      have HFa := hid (fun W => far_no x hnear W)
      obtain ⟨res, hres⟩ : ∃ r, r = colM s0 x := ⟨_, rfl⟩
      rw [← hres] at HX HY
      clear hres hnear hx HN
      obtain ⟨⟨line2, j2, cq2, cm_2, a2, p2, found2, tail2, cyc2⟩, fl0, s2⟩ := res
      simp only [ColV.val] at HX HY
      have HAl := fun {W : World} {h ab db r rd cap : Nat} {ext : List Value} (H : HAt W h ab db s2) (R : RAt W r rd cap ext s2) => hid (by have := alike_any H R; simp only [decide_true, Bool.and_self] at this; exact this)
      obtain ⟨line, j, cq, cm_, a, p, found, tail, cyc⟩ := x
      unfold ColV.val
      obtain ⟨cc, cm, cr, cg⟩ := c
      simp only at g1 g2 g3
      go_enter Try.func22, Try.ntmps22
      have hX := Blk.new (w.alloc (.cells #[.int .i64 cc, .int .i64 cm, .int .i64 cr, .int .i64 cg] 45)) [.int .i64 line, .int .i64 j, .int .i64 cq, .int .i64 cm_, .int .u64 a, .int .u64 p, .bool found, .int .i64 tail, .int .i64 cyc] 86
      have hB := (Blk.new w [.int .i64 cc, .int .i64 cm, .int .i64 cr, .int .i64 cg] 45).alloc (.cells #[.int .i64 line, .int .i64 j, .int .i64 cq, .int .i64 cm_, .int .u64 a, .int .u64 p, .bool found, .int .i64 tail, .int .i64 cyc] 86)
      simp only [World.size_alloc] at hX
      have hFF := ((Fr.refl [] w).alloc (.cells #[.int .i64 cc, .int .i64 cm, .int .i64 cr, .int .i64 cg] 45)).alloc (.cells #[.int .i64 line, .int .i64 j, .int .i64 cq, .int .i64 cm_, .int .u64 a, .int .u64 p, .bool found, .int .i64 tail, .int .i64 cyc] 86)
      have kX := hX.cell
      have kB := hB.cell
      go_wp2_with (first | (go_at_call 82; refine (awake19_any _).mono ?_; rintro e w2 ⟨rfl, hF2⟩; (have hB := hB.kept hF2 (by simp)); (have kB := hB.cell); (have hX := hX.kept hF2 (by simp)); (have kX := hX.cell); (have hFF := hFF.trans hF2)))
      have hX := hX.drew
      have hB := hB.drew
      have hFF := hFF.drew
      have kX := hX.cell
      have kB := hB.cell
      refine wp_region_held_drew (S := (fun w' => w'.cell? ⟨w.heap.size + 1, 0, none⟩ = some (.int .i64 line) ∧ w'.cell? ⟨w.heap.size + 1, 1, none⟩ = some (.int .i64 j) ∧ w'.cell? ⟨w.heap.size + 1, 2, none⟩ = some (.int .i64 cq) ∧ w'.cell? ⟨w.heap.size + 1, 3, none⟩ = some (.int .i64 cm_) ∧ w'.cell? ⟨w.heap.size + 1, 4, none⟩ = some (.int .u64 a) ∧ w'.cell? ⟨w.heap.size + 1, 5, none⟩ = some (.int .u64 p) ∧ w'.cell? ⟨w.heap.size + 1, 6, none⟩ = some (.bool found) ∧ w'.cell? ⟨w.heap.size + 1, 7, none⟩ = some (.int .i64 tail) ∧ w'.cell? ⟨w.heap.size + 1, 8, none⟩ = some (.int .i64 cyc))) (by kernel_rfl) ?_ (fun hHeld => ?_)
      · (try dsimp only); go_keep
      refine wpAnyH_take (i := 0) (v := ?_) rfl (by kernel_rfl) (by kernel_rfl) (by kernel_rfl) (fun _ _ _ h => h) (Or.inl ⟨by rfl, ?_⟩) (by assumption) ?_
      rotate_left
      · intro w hSw; (try dsimp only at hSw); go_simp; first | done | with_reducible rfl
      try simp only [Act.put, List.getElem_toArray, List.getElem_cons_succ, List.getElem_cons_zero, List.setIfInBounds_toArray, List.set_cons_zero, List.set_cons_succ]
      refine wpAnyH_take (i := 2) (v := ?_) rfl (by kernel_rfl) (by kernel_rfl) (by kernel_rfl) (fun _ _ _ h => h) (Or.inl ⟨by rfl, ?_⟩) (by assumption) ?_
      rotate_left
      · intro w hSw; (try dsimp only at hSw); go_simp; first | done | with_reducible rfl
      try simp only [Act.put, List.getElem_toArray, List.getElem_cons_succ, List.getElem_cons_zero, List.setIfInBounds_toArray, List.set_cons_zero, List.set_cons_succ]
      refine wpAnyH_ready (rs := [1]) (by kernel_rfl) (by simp) ?_
      refine AllReadyH.cons rfl (fun K hK => ?_) AllReadyH.nil
      go_simp
      go_at_call 83
      refine (HM1.out _).mono ?_
      rintro e w4 ⟨rfl, hF2⟩
      (have hB := hB.kept hF2 List.not_mem_nil)
      (have kB := hB.cell)
      (have hX := hX.kept hF2 List.not_mem_nil)
      (have kX := hX.cell)
      (have hFF := hFF.trans hF2)
      go_wp2_with fail
      refine hK.out _ _ ?_ (fun hHeld => ?_)
      · (try dsimp only); go_keep
      clear hK K
      try simp only [Act.put, List.getElem_toArray, List.getElem_cons_succ, List.getElem_cons_zero, List.setIfInBounds_toArray, List.set_cons_zero, List.set_cons_succ]
      refine wpAnyH_ready (rs := [3]) (by kernel_rfl) (by simp) ?_
      refine AllReadyH.cons rfl (fun K hK => ?_) AllReadyH.nil
      go_simp
      go_at_call 84
      refine (HM2.out _).mono ?_
      rintro e w4 ⟨rfl, hF2⟩
      (have hB := hB.kept hF2 List.not_mem_nil)
      (have kB := hB.cell)
      (have hX := hX.kept hF2 List.not_mem_nil)
      (have kX := hX.cell)
      (have hFF := hFF.trans hF2)
      go_wp2_with fail
      refine hK.out _ _ ?_ (fun hHeld => ?_)
      · (try dsimp only); go_keep
      clear hK K
      try simp only [Act.put, List.getElem_toArray, List.getElem_cons_succ, List.getElem_cons_zero, List.setIfInBounds_toArray, List.set_cons_zero, List.set_cons_succ]
      refine wpAnyH_take (i := 4) (v := ?_) rfl (by kernel_rfl) (by kernel_rfl) (by kernel_rfl) (fun _ _ _ h => h) (Or.inl ⟨by rfl, ?_⟩) (by assumption) ?_
      rotate_left
      · intro w hSw; (try dsimp only at hSw); go_simp; first | done | with_reducible rfl
      try simp only [Act.put, List.getElem_toArray, List.getElem_cons_succ, List.getElem_cons_zero, List.setIfInBounds_toArray, List.set_cons_zero, List.set_cons_succ]
      refine wpAnyH_take (i := 5) (v := ?_) rfl (by kernel_rfl) (by kernel_rfl) (by kernel_rfl) (fun _ _ _ h => h) (Or.inl ⟨by rfl, ?_⟩) (by assumption) ?_
      rotate_left
      · intro w hSw; (try dsimp only at hSw); go_simp; first | done | with_reducible rfl
      try simp only [Act.put, List.getElem_toArray, List.getElem_cons_succ, List.getElem_cons_zero, List.setIfInBounds_toArray, List.set_cons_zero, List.set_cons_succ]
      refine wpAnyH_take (i := 6) (v := ?_) rfl (by kernel_rfl) (by kernel_rfl) (by kernel_rfl) (fun _ _ _ h => h) (Or.inl ⟨by rfl, ?_⟩) (by assumption) ?_
      rotate_left
      · intro w hSw; (try dsimp only at hSw); go_simp; first | done | with_reducible rfl
      try simp only [Act.put, List.getElem_toArray, List.getElem_cons_succ, List.getElem_cons_zero, List.setIfInBounds_toArray, List.set_cons_zero, List.set_cons_succ]
      refine wpAnyH_take (i := 8) (v := ?_) rfl (by kernel_rfl) (by kernel_rfl) (by kernel_rfl) (fun _ _ _ h => h) (Or.inl ⟨by rfl, ?_⟩) (by assumption) ?_
      rotate_left
      · intro w hSw; (try dsimp only at hSw); go_simp; first | done | with_reducible rfl
      try simp only [Act.put, List.getElem_toArray, List.getElem_cons_succ, List.getElem_cons_zero, List.setIfInBounds_toArray, List.set_cons_zero, List.set_cons_succ]
      refine wpAnyH_ready (rs := [7]) (by kernel_rfl) (by simp) ?_
      refine AllReadyH.cons rfl (fun K hK => ?_) AllReadyH.nil
      go_simp
      go_at_call 85
      refine (HSw.out _).mono ?_
      rintro e w4 ⟨rfl, hF2⟩
      (have hB := hB.kept hF2 List.not_mem_nil)
      (have kB := hB.cell)
      (have hX := hX.kept hF2 List.not_mem_nil)
      (have kX := hX.cell)
      (have hFF := hFF.trans hF2)
      go_wp2_with fail
      refine hK.out _ _ ?_ (fun hHeld => ?_)
      · (try dsimp only); go_keep
      clear hK K
      try simp only [Act.put, List.getElem_toArray, List.getElem_cons_succ, List.getElem_cons_zero, List.setIfInBounds_toArray, List.set_cons_zero, List.set_cons_succ]
      refine wpAnyH_take (i := 9) (v := ?_) rfl (by kernel_rfl) (by kernel_rfl) (by kernel_rfl) (fun _ _ _ h => h) (Or.inl ⟨by rfl, ?_⟩) (by assumption) ?_
      rotate_left
      · intro w hSw; (try dsimp only at hSw); go_simp; first | done | with_reducible rfl
      try simp only [Act.put, List.getElem_toArray, List.getElem_cons_succ, List.getElem_cons_zero, List.setIfInBounds_toArray, List.set_cons_zero, List.set_cons_succ]
      refine wpAnyH_take (i := 10) (v := ?_) rfl (by kernel_rfl) (by kernel_rfl) (by kernel_rfl) (fun _ _ _ h => h) (Or.inl ⟨by rfl, ?_⟩) (by assumption) ?_
      rotate_left
      · intro w hSw; (try dsimp only at hSw); go_simp; first | done | with_reducible rfl
      try simp only [Act.put, List.getElem_toArray, List.getElem_cons_succ, List.getElem_cons_zero, List.setIfInBounds_toArray, List.set_cons_zero, List.set_cons_succ]
      refine wpAnyH_done (by kernel_rfl) ?_ _
      clear HM1 HM2 HSw
      go_wp2_with (first | (go_at_call 62; refine (HBo _ hFF).out.mono ?_; rintro e w5 ⟨⟨h, ab, db, r, rd, cap, ext, rfl, HH, HR, q1, q2, q3, q4, q5, d1, d2, d3, d4, d5, d6⟩, hF2⟩; rw [← hs0.out] at HH HR; (have hXl := hX.lt); (have hX := hX.kept hF2 (by simp)); (have hB := hB.kept hF2 (by simp)); (have nBk : w.heap.size ∉ [h, db] := by simp; omega); (have nBr : w.heap.size ∉ [r, rd] := by simp; omega); (have nX : w.heap.size + 1 ∉ [h, db] := by simp; omega); (have nR : r ∉ [h, db] := by simp; omega); (have nRd : rd ∉ [h, db] := by simp; omega); (have nH : h ∉ [r, rd] := by simp; omega); (have nAb : ab ∉ [r, rd] := by simp; omega); (have nDb : db ∉ [r, rd] := by simp; omega); (have sF := hFF.size); (have hSS := fun i (m : i ∈ [h, db]) (l : i < w.heap.size) => (show i ∈ ([] : List Nat) by simp at m; omega)); (have hST := fun i (m : i ∈ [r, rd]) (l : i < w.heap.size) => (show i ∈ ([] : List Nat) by simp at m; omega)); (have kX := hX.cell); (have hFF := hFF.trans hF2); clear d1 d2 d3 d4 d5 d6 q1 q2 q3 q4 q5 sF) | (go_at_call 63; refine (HFa.out _).mono ?_; rintro e w5 ⟨rfl, hF2⟩; (have HH := HH.kept0 hF2); (have HR := HR.kept0 hF2); (have hX := hX.kept hF2 (by simp)); (have kX := hX.cell); (have hFF := hFF.trans hF2); (have hB := hB.kept hF2 (by simp))) | (go_at_call 87; refine (load_u rfl HH).mono ?_; rintro e w9 ⟨rfl, HH, hF2⟩; (have HR := HR.kept hF2 nR nRd); (have hX := hX.kept hF2 nX); (have kX := hX.cell); (have hFF := hFF.trans_new hF2 hSS); (have hB := hB.kept hF2 nBk)) | (go_at_call 86; refine (HX HH).mono ?_; rintro e w6 ⟨rfl, HH2, hF2⟩; (have HR := HR.kept hF2 nR nRd); (have hX := hX.kept hF2 nX); (have kX := (hX.alloc (.cells #[.int .i64 line2, .int .i64 j2, .int .i64 cq2, .int .i64 cm_2, .int .u64 a2, .int .u64 p2, .bool found2, .int .i64 tail2, .int .i64 cyc2] 86)).cell); (have hFF := hFF.trans_new hF2 hSS); (have hB := hB.kept hF2 nBk)) | (go_at_call 88; refine (HY (HR.alloc _)).mono ?_; rintro e w7 ⟨rfl, HR2, hF2⟩; (have HH2 := (HH2.alloc _).kept hF2 nH nAb nDb); (have nA : w6.heap.size ∉ [r, rd] := by have := HR.blk.lt; have := HR.ar.dat.lt; simp; omega); (have hA := (Blk.new w6 [.int .i64 line2, .int .i64 j2, .int .i64 cq2, .int .i64 cm_2, .int .u64 a2, .int .u64 p2, .bool found2, .int .i64 tail2, .int .i64 cyc2] 86).kept hF2 nA); (have kA := (hA.alloc (.cells #[.int .i64 line2, .int .i64 j2, .int .i64 cq2, .int .i64 cm_2, .int .u64 a2, .int .u64 p2, .bool found2, .int .i64 tail2, .int .i64 cyc2] 86)).cell); (have hFF := (hFF.alloc _).trans_new hF2 hST); (have hB := (hB.alloc _).kept hF2 nBr)))
      have HH2 := (HH2.alloc (.cells #[.int .i64 line2, .int .i64 j2, .int .i64 cq2, .int .i64 cm_2, .int .u64 a2, .int .u64 p2, .bool found2, .int .i64 tail2, .int .i64 cyc2] 86)).drew
      have HR2 := (HR2.alloc (.cells #[.int .i64 line2, .int .i64 j2, .int .i64 cq2, .int .i64 cm_2, .int .u64 a2, .int .u64 p2, .bool found2, .int .i64 tail2, .int .i64 cyc2] 86)).drew
      have hA2 := (hA.alloc (.cells #[.int .i64 line2, .int .i64 j2, .int .i64 cq2, .int .i64 cm_2, .int .u64 a2, .int .u64 p2, .bool found2, .int .i64 tail2, .int .i64 cyc2] 86)).drew
      have hC2 := (Blk.new w7 [.int .i64 line2, .int .i64 j2, .int .i64 cq2, .int .i64 cm_2, .int .u64 a2, .int .u64 p2, .bool found2, .int .i64 tail2, .int .i64 cyc2] 86).drew
      have hB2 := (hB.alloc (.cells #[.int .i64 line2, .int .i64 j2, .int .i64 cq2, .int .i64 cm_2, .int .u64 a2, .int .u64 p2, .bool found2, .int .i64 tail2, .int .i64 cyc2] 86)).drew
      have hFF := (hFF.alloc (.cells #[.int .i64 line2, .int .i64 j2, .int .i64 cq2, .int .i64 cm_2, .int .u64 a2, .int .u64 p2, .bool found2, .int .i64 tail2, .int .i64 cyc2] 86)).drew
      have kA2 := hA2.cell
      have kC2 := hC2.cell
      have kB2 := hB2.cell
      clear hA kA hX kX hB kB
      go_region_held3 (fun w' => w'.cell? ⟨w6.heap.size, 0, none⟩ = some (.int .i64 line2) ∧ w'.cell? ⟨w6.heap.size, 1, none⟩ = some (.int .i64 j2) ∧ w'.cell? ⟨w6.heap.size, 2, none⟩ = some (.int .i64 cq2) ∧ w'.cell? ⟨w6.heap.size, 3, none⟩ = some (.int .i64 cm_2) ∧ w'.cell? ⟨w6.heap.size, 4, none⟩ = some (.int .u64 a2) ∧ w'.cell? ⟨w6.heap.size, 5, none⟩ = some (.int .u64 p2) ∧ w'.cell? ⟨w6.heap.size, 6, none⟩ = some (.bool found2) ∧ w'.cell? ⟨w6.heap.size, 7, none⟩ = some (.int .i64 tail2) ∧ w'.cell? ⟨w6.heap.size, 8, none⟩ = some (.int .i64 cyc2) ∧ w'.cell? ⟨w7.heap.size, 0, none⟩ = some (.int .i64 line2) ∧ w'.cell? ⟨w7.heap.size, 1, none⟩ = some (.int .i64 j2) ∧ w'.cell? ⟨w7.heap.size, 2, none⟩ = some (.int .i64 cq2) ∧ w'.cell? ⟨w7.heap.size, 3, none⟩ = some (.int .i64 cm_2) ∧ w'.cell? ⟨w7.heap.size, 4, none⟩ = some (.int .u64 a2) ∧ w'.cell? ⟨w7.heap.size, 5, none⟩ = some (.int .u64 p2) ∧ w'.cell? ⟨w7.heap.size, 6, none⟩ = some (.bool found2) ∧ w'.cell? ⟨w7.heap.size, 7, none⟩ = some (.int .i64 tail2) ∧ w'.cell? ⟨w7.heap.size, 8, none⟩ = some (.int .i64 cyc2) ∧ w'.cell? ⟨w.heap.size, 0, none⟩ = some (.int .i64 cc) ∧ w'.cell? ⟨w.heap.size, 1, none⟩ = some (.int .i64 cm) ∧ w'.cell? ⟨w.heap.size, 2, none⟩ = some (.int .i64 cr) ∧ w'.cell? ⟨w.heap.size, 3, none⟩ = some (.int .i64 cg)) (go_keep)
        (first | (go_at_call 66; refine (HAl HH2 HR2).out.mono ?_; rintro e w8 ⟨rfl, hF2⟩; (have hA2 := hA2.kept hF2 List.not_mem_nil); (have kA2 := hA2.cell); (have hC2 := hC2.kept hF2 List.not_mem_nil); (have kC2 := hC2.cell); (have hB2 := hB2.kept hF2 List.not_mem_nil); (have kB2 := hB2.cell); (have HH2 := HH2.kept0 hF2); (have HR2 := HR2.kept0 hF2); (have hFF := hFF.trans hF2)) | (go_at_call 89; refine (HB1.out _).mono ?_; rintro e w8 ⟨rfl, hF2⟩; (have hA2 := hA2.kept hF2 List.not_mem_nil); (have kA2 := hA2.cell); (have hC2 := hC2.kept hF2 List.not_mem_nil); (have kC2 := hC2.cell); (have hB2 := hB2.kept hF2 List.not_mem_nil); (have kB2 := hB2.cell); (have HH2 := HH2.kept0 hF2); (have HR2 := HR2.kept0 hF2); (have hFF := hFF.trans hF2)) | (go_at_call 90; refine (HB2.out _).mono ?_; rintro e w8 ⟨rfl, hF2⟩; (have hA2 := hA2.kept hF2 List.not_mem_nil); (have kA2 := hA2.cell); (have hC2 := hC2.kept hF2 List.not_mem_nil); (have kC2 := hC2.cell); (have hB2 := hB2.kept hF2 List.not_mem_nil); (have kB2 := hB2.cell); (have HH2 := HH2.kept0 hF2); (have HR2 := HR2.kept0 hF2); (have hFF := hFF.trans hF2)))
      go_wp2
      go_ret
      exact ⟨rfl, hFF⟩
    · have HFa := hid (fun W => far_yes x hnear W)
      clear hx hnear
      obtain ⟨line, j, cq, cm_, a, p, found, tail, cyc⟩ := x
      unfold ColV.val
      obtain ⟨cc, cm, cr, cg⟩ := c
      simp only at g1 g2 g3
      go_enter Try.func22, Try.ntmps22
      have hX := Blk.new (w.alloc (.cells #[.int .i64 cc, .int .i64 cm, .int .i64 cr, .int .i64 cg] 45)) [.int .i64 line, .int .i64 j, .int .i64 cq, .int .i64 cm_, .int .u64 a, .int .u64 p, .bool found, .int .i64 tail, .int .i64 cyc] 86
      have hB := (Blk.new w [.int .i64 cc, .int .i64 cm, .int .i64 cr, .int .i64 cg] 45).alloc (.cells #[.int .i64 line, .int .i64 j, .int .i64 cq, .int .i64 cm_, .int .u64 a, .int .u64 p, .bool found, .int .i64 tail, .int .i64 cyc] 86)
      simp only [World.size_alloc] at hX
      have hFF := ((Fr.refl [] w).alloc (.cells #[.int .i64 cc, .int .i64 cm, .int .i64 cr, .int .i64 cg] 45)).alloc (.cells #[.int .i64 line, .int .i64 j, .int .i64 cq, .int .i64 cm_, .int .u64 a, .int .u64 p, .bool found, .int .i64 tail, .int .i64 cyc] 86)
      have kX := hX.cell
      have kB := hB.cell
      go_wp2_with (first | (go_at_call 82; refine (awake19_any _).mono ?_; rintro e w2 ⟨rfl, hF2⟩; (have hB := hB.kept hF2 (by simp)); (have kB := hB.cell); (have hX := hX.kept hF2 (by simp)); (have kX := hX.cell); (have hFF := hFF.trans hF2)))
      have hX := hX.drew
      have hB := hB.drew
      have hFF := hFF.drew
      have kX := hX.cell
      have kB := hB.cell
      refine wp_region_held_drew (S := (fun w' => w'.cell? ⟨w.heap.size + 1, 0, none⟩ = some (.int .i64 line) ∧ w'.cell? ⟨w.heap.size + 1, 1, none⟩ = some (.int .i64 j) ∧ w'.cell? ⟨w.heap.size + 1, 2, none⟩ = some (.int .i64 cq) ∧ w'.cell? ⟨w.heap.size + 1, 3, none⟩ = some (.int .i64 cm_) ∧ w'.cell? ⟨w.heap.size + 1, 4, none⟩ = some (.int .u64 a) ∧ w'.cell? ⟨w.heap.size + 1, 5, none⟩ = some (.int .u64 p) ∧ w'.cell? ⟨w.heap.size + 1, 6, none⟩ = some (.bool found) ∧ w'.cell? ⟨w.heap.size + 1, 7, none⟩ = some (.int .i64 tail) ∧ w'.cell? ⟨w.heap.size + 1, 8, none⟩ = some (.int .i64 cyc))) (by kernel_rfl) ?_ (fun hHeld => ?_)
      · (try dsimp only); go_keep
      refine wpAnyH_take (i := 0) (v := ?_) rfl (by kernel_rfl) (by kernel_rfl) (by kernel_rfl) (fun _ _ _ h => h) (Or.inl ⟨by rfl, ?_⟩) (by assumption) ?_
      rotate_left
      · intro w hSw; (try dsimp only at hSw); go_simp; first | done | with_reducible rfl
      try simp only [Act.put, List.getElem_toArray, List.getElem_cons_succ, List.getElem_cons_zero, List.setIfInBounds_toArray, List.set_cons_zero, List.set_cons_succ]
      refine wpAnyH_take (i := 2) (v := ?_) rfl (by kernel_rfl) (by kernel_rfl) (by kernel_rfl) (fun _ _ _ h => h) (Or.inl ⟨by rfl, ?_⟩) (by assumption) ?_
      rotate_left
      · intro w hSw; (try dsimp only at hSw); go_simp; first | done | with_reducible rfl
      try simp only [Act.put, List.getElem_toArray, List.getElem_cons_succ, List.getElem_cons_zero, List.setIfInBounds_toArray, List.set_cons_zero, List.set_cons_succ]
      refine wpAnyH_ready (rs := [1]) (by kernel_rfl) (by simp) ?_
      refine AllReadyH.cons rfl (fun K hK => ?_) AllReadyH.nil
      go_simp
      go_at_call 83
      refine (HM1.out _).mono ?_
      rintro e w4 ⟨rfl, hF2⟩
      (have hB := hB.kept hF2 List.not_mem_nil)
      (have kB := hB.cell)
      (have hX := hX.kept hF2 List.not_mem_nil)
      (have kX := hX.cell)
      (have hFF := hFF.trans hF2)
      go_wp2_with fail
      refine hK.out _ _ ?_ (fun hHeld => ?_)
      · (try dsimp only); go_keep
      clear hK K
      try simp only [Act.put, List.getElem_toArray, List.getElem_cons_succ, List.getElem_cons_zero, List.setIfInBounds_toArray, List.set_cons_zero, List.set_cons_succ]
      refine wpAnyH_ready (rs := [3]) (by kernel_rfl) (by simp) ?_
      refine AllReadyH.cons rfl (fun K hK => ?_) AllReadyH.nil
      go_simp
      go_at_call 84
      refine (HM2.out _).mono ?_
      rintro e w4 ⟨rfl, hF2⟩
      (have hB := hB.kept hF2 List.not_mem_nil)
      (have kB := hB.cell)
      (have hX := hX.kept hF2 List.not_mem_nil)
      (have kX := hX.cell)
      (have hFF := hFF.trans hF2)
      go_wp2_with fail
      refine hK.out _ _ ?_ (fun hHeld => ?_)
      · (try dsimp only); go_keep
      clear hK K
      try simp only [Act.put, List.getElem_toArray, List.getElem_cons_succ, List.getElem_cons_zero, List.setIfInBounds_toArray, List.set_cons_zero, List.set_cons_succ]
      refine wpAnyH_take (i := 4) (v := ?_) rfl (by kernel_rfl) (by kernel_rfl) (by kernel_rfl) (fun _ _ _ h => h) (Or.inl ⟨by rfl, ?_⟩) (by assumption) ?_
      rotate_left
      · intro w hSw; (try dsimp only at hSw); go_simp; first | done | with_reducible rfl
      try simp only [Act.put, List.getElem_toArray, List.getElem_cons_succ, List.getElem_cons_zero, List.setIfInBounds_toArray, List.set_cons_zero, List.set_cons_succ]
      refine wpAnyH_take (i := 5) (v := ?_) rfl (by kernel_rfl) (by kernel_rfl) (by kernel_rfl) (fun _ _ _ h => h) (Or.inl ⟨by rfl, ?_⟩) (by assumption) ?_
      rotate_left
      · intro w hSw; (try dsimp only at hSw); go_simp; first | done | with_reducible rfl
      try simp only [Act.put, List.getElem_toArray, List.getElem_cons_succ, List.getElem_cons_zero, List.setIfInBounds_toArray, List.set_cons_zero, List.set_cons_succ]
      refine wpAnyH_take (i := 6) (v := ?_) rfl (by kernel_rfl) (by kernel_rfl) (by kernel_rfl) (fun _ _ _ h => h) (Or.inl ⟨by rfl, ?_⟩) (by assumption) ?_
      rotate_left
      · intro w hSw; (try dsimp only at hSw); go_simp; first | done | with_reducible rfl
      try simp only [Act.put, List.getElem_toArray, List.getElem_cons_succ, List.getElem_cons_zero, List.setIfInBounds_toArray, List.set_cons_zero, List.set_cons_succ]
      refine wpAnyH_take (i := 8) (v := ?_) rfl (by kernel_rfl) (by kernel_rfl) (by kernel_rfl) (fun _ _ _ h => h) (Or.inl ⟨by rfl, ?_⟩) (by assumption) ?_
      rotate_left
      · intro w hSw; (try dsimp only at hSw); go_simp; first | done | with_reducible rfl
      try simp only [Act.put, List.getElem_toArray, List.getElem_cons_succ, List.getElem_cons_zero, List.setIfInBounds_toArray, List.set_cons_zero, List.set_cons_succ]
      refine wpAnyH_ready (rs := [7]) (by kernel_rfl) (by simp) ?_
      refine AllReadyH.cons rfl (fun K hK => ?_) AllReadyH.nil
      go_simp
      go_at_call 85
      refine (HSw.out _).mono ?_
      rintro e w4 ⟨rfl, hF2⟩
      (have hB := hB.kept hF2 List.not_mem_nil)
      (have kB := hB.cell)
      (have hX := hX.kept hF2 List.not_mem_nil)
      (have kX := hX.cell)
      (have hFF := hFF.trans hF2)
      go_wp2_with fail
      refine hK.out _ _ ?_ (fun hHeld => ?_)
      · (try dsimp only); go_keep
      clear hK K
      try simp only [Act.put, List.getElem_toArray, List.getElem_cons_succ, List.getElem_cons_zero, List.setIfInBounds_toArray, List.set_cons_zero, List.set_cons_succ]
      refine wpAnyH_take (i := 9) (v := ?_) rfl (by kernel_rfl) (by kernel_rfl) (by kernel_rfl) (fun _ _ _ h => h) (Or.inl ⟨by rfl, ?_⟩) (by assumption) ?_
      rotate_left
      · intro w hSw; (try dsimp only at hSw); go_simp; first | done | with_reducible rfl
      try simp only [Act.put, List.getElem_toArray, List.getElem_cons_succ, List.getElem_cons_zero, List.setIfInBounds_toArray, List.set_cons_zero, List.set_cons_succ]
      refine wpAnyH_take (i := 10) (v := ?_) rfl (by kernel_rfl) (by kernel_rfl) (by kernel_rfl) (fun _ _ _ h => h) (Or.inl ⟨by rfl, ?_⟩) (by assumption) ?_
      rotate_left
      · intro w hSw; (try dsimp only at hSw); go_simp; first | done | with_reducible rfl
      try simp only [Act.put, List.getElem_toArray, List.getElem_cons_succ, List.getElem_cons_zero, List.setIfInBounds_toArray, List.set_cons_zero, List.set_cons_succ]
      refine wpAnyH_done (by kernel_rfl) ?_ _
      clear HM1 HM2 HSw
      go_wp2_with (first | (go_at_call 62; refine (HBo _ hFF).out.mono ?_; rintro e w5 ⟨⟨h, ab, db, r, rd, cap, ext, rfl, HH, HR, q1, q2, q3, q4, q5, d1, d2, d3, d4, d5, d6⟩, hF2⟩; rw [← hs0.out] at HH HR; (have hXl := hX.lt); (have hX := hX.kept hF2 (by simp)); (have hB := hB.kept hF2 (by simp)); (have nBk : w.heap.size ∉ [h, db] := by simp; omega); (have nBr : w.heap.size ∉ [r, rd] := by simp; omega); (have nX : w.heap.size + 1 ∉ [h, db] := by simp; omega); (have nR : r ∉ [h, db] := by simp; omega); (have nRd : rd ∉ [h, db] := by simp; omega); (have nH : h ∉ [r, rd] := by simp; omega); (have nAb : ab ∉ [r, rd] := by simp; omega); (have nDb : db ∉ [r, rd] := by simp; omega); (have sF := hFF.size); (have hSS := fun i (m : i ∈ [h, db]) (l : i < w.heap.size) => (show i ∈ ([] : List Nat) by simp at m; omega)); (have hST := fun i (m : i ∈ [r, rd]) (l : i < w.heap.size) => (show i ∈ ([] : List Nat) by simp at m; omega)); (have kX := hX.cell); (have hFF := hFF.trans hF2); clear d1 d2 d3 d4 d5 d6 q1 q2 q3 q4 q5 sF) | (go_at_call 63; refine (HFa.out _).mono ?_; rintro e w5 ⟨rfl, hF2⟩; (have HH := HH.kept0 hF2); (have HR := HR.kept0 hF2); (have hX := hX.kept hF2 (by simp)); (have kX := hX.cell); (have hFF := hFF.trans hF2); (have hB := hB.kept hF2 (by simp))) | (go_at_call 86; refine (HN.out _).mono ?_; rintro e w6 ⟨rfl, hF2⟩; (have hX := hX.kept hF2 List.not_mem_nil); (have kX := (hX.alloc (.cells #[.int .i64 line, .int .i64 j, .int .i64 cq, .int .i64 cm_, .int .u64 a, .int .u64 p, .bool found, .int .i64 tail, .int .i64 cyc] 86)).cell); (have kZ := (Blk.new w6 [.int .i64 line, .int .i64 j, .int .i64 cq, .int .i64 cm_, .int .u64 a, .int .u64 p, .bool found, .int .i64 tail, .int .i64 cyc] 86).cell); (have hFF := hFF.trans hF2)))
      go_ret
      exact ⟨rfl, hFF.alloc _⟩
  · have HBo := fun W (f : Fr [] w W) => hid (both_no (w := W) c _ l (hv.kept0 f) hbo hl)
    clear hv hbo hl hwf hx
    obtain ⟨line, j, cq, cm_, a, p, found, tail, cyc⟩ := x
    unfold ColV.val
    obtain ⟨cc, cm, cr, cg⟩ := c
    simp only at g1 g2 g3
    go_enter Try.func22, Try.ntmps22
    have hX := Blk.new (w.alloc (.cells #[.int .i64 cc, .int .i64 cm, .int .i64 cr, .int .i64 cg] 45)) [.int .i64 line, .int .i64 j, .int .i64 cq, .int .i64 cm_, .int .u64 a, .int .u64 p, .bool found, .int .i64 tail, .int .i64 cyc] 86
    have hB := (Blk.new w [.int .i64 cc, .int .i64 cm, .int .i64 cr, .int .i64 cg] 45).alloc (.cells #[.int .i64 line, .int .i64 j, .int .i64 cq, .int .i64 cm_, .int .u64 a, .int .u64 p, .bool found, .int .i64 tail, .int .i64 cyc] 86)
    simp only [World.size_alloc] at hX
    have hFF := ((Fr.refl [] w).alloc (.cells #[.int .i64 cc, .int .i64 cm, .int .i64 cr, .int .i64 cg] 45)).alloc (.cells #[.int .i64 line, .int .i64 j, .int .i64 cq, .int .i64 cm_, .int .u64 a, .int .u64 p, .bool found, .int .i64 tail, .int .i64 cyc] 86)
    have kX := hX.cell
    have kB := hB.cell
    go_wp2_with (first | (go_at_call 82; refine (awake19_any _).mono ?_; rintro e w2 ⟨rfl, hF2⟩; (have hB := hB.kept hF2 (by simp)); (have kB := hB.cell); (have hX := hX.kept hF2 (by simp)); (have kX := hX.cell); (have hFF := hFF.trans hF2)))
    have hX := hX.drew
    have hB := hB.drew
    have hFF := hFF.drew
    have kX := hX.cell
    have kB := hB.cell
    refine wp_region_held_drew (S := (fun w' => w'.cell? ⟨w.heap.size + 1, 0, none⟩ = some (.int .i64 line) ∧ w'.cell? ⟨w.heap.size + 1, 1, none⟩ = some (.int .i64 j) ∧ w'.cell? ⟨w.heap.size + 1, 2, none⟩ = some (.int .i64 cq) ∧ w'.cell? ⟨w.heap.size + 1, 3, none⟩ = some (.int .i64 cm_) ∧ w'.cell? ⟨w.heap.size + 1, 4, none⟩ = some (.int .u64 a) ∧ w'.cell? ⟨w.heap.size + 1, 5, none⟩ = some (.int .u64 p) ∧ w'.cell? ⟨w.heap.size + 1, 6, none⟩ = some (.bool found) ∧ w'.cell? ⟨w.heap.size + 1, 7, none⟩ = some (.int .i64 tail) ∧ w'.cell? ⟨w.heap.size + 1, 8, none⟩ = some (.int .i64 cyc))) (by kernel_rfl) ?_ (fun hHeld => ?_)
    · (try dsimp only); go_keep
    refine wpAnyH_take (i := 0) (v := ?_) rfl (by kernel_rfl) (by kernel_rfl) (by kernel_rfl) (fun _ _ _ h => h) (Or.inl ⟨by rfl, ?_⟩) (by assumption) ?_
    rotate_left
    · intro w hSw; (try dsimp only at hSw); go_simp; first | done | with_reducible rfl
    try simp only [Act.put, List.getElem_toArray, List.getElem_cons_succ, List.getElem_cons_zero, List.setIfInBounds_toArray, List.set_cons_zero, List.set_cons_succ]
    refine wpAnyH_take (i := 2) (v := ?_) rfl (by kernel_rfl) (by kernel_rfl) (by kernel_rfl) (fun _ _ _ h => h) (Or.inl ⟨by rfl, ?_⟩) (by assumption) ?_
    rotate_left
    · intro w hSw; (try dsimp only at hSw); go_simp; first | done | with_reducible rfl
    try simp only [Act.put, List.getElem_toArray, List.getElem_cons_succ, List.getElem_cons_zero, List.setIfInBounds_toArray, List.set_cons_zero, List.set_cons_succ]
    refine wpAnyH_ready (rs := [1]) (by kernel_rfl) (by simp) ?_
    refine AllReadyH.cons rfl (fun K hK => ?_) AllReadyH.nil
    go_simp
    go_at_call 83
    refine (HM1.out _).mono ?_
    rintro e w4 ⟨rfl, hF2⟩
    (have hB := hB.kept hF2 List.not_mem_nil)
    (have kB := hB.cell)
    (have hX := hX.kept hF2 List.not_mem_nil)
    (have kX := hX.cell)
    (have hFF := hFF.trans hF2)
    go_wp2_with fail
    refine hK.out _ _ ?_ (fun hHeld => ?_)
    · (try dsimp only); go_keep
    clear hK K
    try simp only [Act.put, List.getElem_toArray, List.getElem_cons_succ, List.getElem_cons_zero, List.setIfInBounds_toArray, List.set_cons_zero, List.set_cons_succ]
    refine wpAnyH_ready (rs := [3]) (by kernel_rfl) (by simp) ?_
    refine AllReadyH.cons rfl (fun K hK => ?_) AllReadyH.nil
    go_simp
    go_at_call 84
    refine (HM2.out _).mono ?_
    rintro e w4 ⟨rfl, hF2⟩
    (have hB := hB.kept hF2 List.not_mem_nil)
    (have kB := hB.cell)
    (have hX := hX.kept hF2 List.not_mem_nil)
    (have kX := hX.cell)
    (have hFF := hFF.trans hF2)
    go_wp2_with fail
    refine hK.out _ _ ?_ (fun hHeld => ?_)
    · (try dsimp only); go_keep
    clear hK K
    try simp only [Act.put, List.getElem_toArray, List.getElem_cons_succ, List.getElem_cons_zero, List.setIfInBounds_toArray, List.set_cons_zero, List.set_cons_succ]
    refine wpAnyH_take (i := 4) (v := ?_) rfl (by kernel_rfl) (by kernel_rfl) (by kernel_rfl) (fun _ _ _ h => h) (Or.inl ⟨by rfl, ?_⟩) (by assumption) ?_
    rotate_left
    · intro w hSw; (try dsimp only at hSw); go_simp; first | done | with_reducible rfl
    try simp only [Act.put, List.getElem_toArray, List.getElem_cons_succ, List.getElem_cons_zero, List.setIfInBounds_toArray, List.set_cons_zero, List.set_cons_succ]
    refine wpAnyH_take (i := 5) (v := ?_) rfl (by kernel_rfl) (by kernel_rfl) (by kernel_rfl) (fun _ _ _ h => h) (Or.inl ⟨by rfl, ?_⟩) (by assumption) ?_
    rotate_left
    · intro w hSw; (try dsimp only at hSw); go_simp; first | done | with_reducible rfl
    try simp only [Act.put, List.getElem_toArray, List.getElem_cons_succ, List.getElem_cons_zero, List.setIfInBounds_toArray, List.set_cons_zero, List.set_cons_succ]
    refine wpAnyH_take (i := 6) (v := ?_) rfl (by kernel_rfl) (by kernel_rfl) (by kernel_rfl) (fun _ _ _ h => h) (Or.inl ⟨by rfl, ?_⟩) (by assumption) ?_
    rotate_left
    · intro w hSw; (try dsimp only at hSw); go_simp; first | done | with_reducible rfl
    try simp only [Act.put, List.getElem_toArray, List.getElem_cons_succ, List.getElem_cons_zero, List.setIfInBounds_toArray, List.set_cons_zero, List.set_cons_succ]
    refine wpAnyH_take (i := 8) (v := ?_) rfl (by kernel_rfl) (by kernel_rfl) (by kernel_rfl) (fun _ _ _ h => h) (Or.inl ⟨by rfl, ?_⟩) (by assumption) ?_
    rotate_left
    · intro w hSw; (try dsimp only at hSw); go_simp; first | done | with_reducible rfl
    try simp only [Act.put, List.getElem_toArray, List.getElem_cons_succ, List.getElem_cons_zero, List.setIfInBounds_toArray, List.set_cons_zero, List.set_cons_succ]
    refine wpAnyH_ready (rs := [7]) (by kernel_rfl) (by simp) ?_
    refine AllReadyH.cons rfl (fun K hK => ?_) AllReadyH.nil
    go_simp
    go_at_call 85
    refine (HSw.out _).mono ?_
    rintro e w4 ⟨rfl, hF2⟩
    (have hB := hB.kept hF2 List.not_mem_nil)
    (have kB := hB.cell)
    (have hX := hX.kept hF2 List.not_mem_nil)
    (have kX := hX.cell)
    (have hFF := hFF.trans hF2)
    go_wp2_with fail
    refine hK.out _ _ ?_ (fun hHeld => ?_)
    · (try dsimp only); go_keep
    clear hK K
    try simp only [Act.put, List.getElem_toArray, List.getElem_cons_succ, List.getElem_cons_zero, List.setIfInBounds_toArray, List.set_cons_zero, List.set_cons_succ]
    refine wpAnyH_take (i := 9) (v := ?_) rfl (by kernel_rfl) (by kernel_rfl) (by kernel_rfl) (fun _ _ _ h => h) (Or.inl ⟨by rfl, ?_⟩) (by assumption) ?_
    rotate_left
    · intro w hSw; (try dsimp only at hSw); go_simp; first | done | with_reducible rfl
    try simp only [Act.put, List.getElem_toArray, List.getElem_cons_succ, List.getElem_cons_zero, List.setIfInBounds_toArray, List.set_cons_zero, List.set_cons_succ]
    refine wpAnyH_take (i := 10) (v := ?_) rfl (by kernel_rfl) (by kernel_rfl) (by kernel_rfl) (fun _ _ _ h => h) (Or.inl ⟨by rfl, ?_⟩) (by assumption) ?_
    rotate_left
    · intro w hSw; (try dsimp only at hSw); go_simp; first | done | with_reducible rfl
    try simp only [Act.put, List.getElem_toArray, List.getElem_cons_succ, List.getElem_cons_zero, List.setIfInBounds_toArray, List.set_cons_zero, List.set_cons_succ]
    refine wpAnyH_done (by kernel_rfl) ?_ _
    clear HM1 HM2 HSw
    go_wp2_with (first | (go_at_call 62; refine (HBo _ hFF).out.mono ?_; rintro e w5 ⟨rfl, hF2⟩; (have hB := hB.kept hF2 (by simp)); (have kB := hB.cell); (have hX := hX.kept hF2 (by simp)); (have kX := hX.cell); (have hFF := hFF.trans hF2)) | (go_at_call 86; refine (HN.out _).mono ?_; rintro e w6 ⟨rfl, hF2⟩; (have hX := hX.kept hF2 List.not_mem_nil); (have kX := (hX.alloc (.cells #[.int .i64 line, .int .i64 j, .int .i64 cq, .int .i64 cm_, .int .u64 a, .int .u64 p, .bool found, .int .i64 tail, .int .i64 cyc] 86)).cell); (have kZ := (Blk.new w6 [.int .i64 line, .int .i64 j, .int .i64 cq, .int .i64 cm_, .int .u64 a, .int .u64 p, .bool found, .int .i64 tail, .int .i64 cyc] 86).cell); (have hFF := hFF.trans hF2)))
    go_ret
    exact ⟨rfl, hFF.alloc _⟩

set_option maxRecDepth 100000 in
set_option maxHeartbeats 4000000 in
theorem collectorSteps_any_hi (c : Cfg) (v : Value) (l : List Int) (x : ColV) (g : 24 < x.line) (w : World) (hx : x.Wf) (hv : RdS w v l.length (u64s l)) (hl : l.length ≤ 35184372088832) (hwf : ∀ y, y ∈ l → 0 ≤ y ∧ y < 18446744073709551616) :
    Calls Try.prog 22 #[c.val, v, x.val] w fun e w' => e = .returned (.bool true) ∧ Fr [] w w' := by
  obtain ⟨ua, uc, rfl, hu⟩ := hv.elim
  clear hu
  have HM1 := hid (fun W => cmarks_any x.line x.j x.c x.m x.a x.p x.tail x.cyc x.found W)
  have HM2 := hid (fun W => rcmarks_any x.line x.j x.c x.m x.a x.p x.tail x.cyc x.found W)
  obtain ⟨mk, hmk⟩ : ∃ z, z = cMarks x.line := ⟨_, rfl⟩
  rw [← hmk] at HM1 HM2
  clear hmk
  have HSw := fun W => cswept_any x.line x.j x.c x.m x.a x.p x.tail x.cyc x.found W
  rw [show cSwept x.line x.c = -1 by unfold cSwept; rw [if_neg (by omega), if_neg (by omega)]] at HSw
  replace HSw := hid HSw
  have g1 : decide (20 ≤ x.line) = true := by simp; omega
  have g2 : decide (x.line ≤ 24) = false := by simp; omega
  have g3 : (x.line == 14) = false := by simp; omega
  clear g
  have HN := hid (fun W => colnil_any W x.line x.j x.c x.m x.a x.p x.tail x.cyc x.found)
  by_cases hbo : bothOk c l.length
  · have HBo := fun W (f : Fr [] w W) => hid (both_ok (w := W) hbo.1 hbo.2.1 _ l (hv.kept0 f) hbo.2.2 hwf)
    have HB1 : Hid (∀ W : World, Calls Try.prog 89 #[c.val] W fun e w' => e = .returned (.agg #[.int .i64 1, .int .i64 0, .int .i64 0, .int .i64 0, .int .u64 0, .int .u64 0, .bool false, .int .i64 (c.cells - 1), .int .i64 0]) ∧ Fr [] W w') := fun W => cbegin_any c.cells c.muts c.regs c.globs ⟨by have := hbo.2.1.c0; omega, by have := hbo.2.1.c1; omega⟩ W
    have HB2 : Hid (∀ W : World, Calls Try.prog 90 #[c.val] W fun e w' => e = .returned (.agg #[.int .i64 1, .int .i64 0, .int .i64 0, .int .i64 0, .int .u64 0, .int .u64 0, .bool false, .int .i64 (c.cells - 1), .int .i64 0]) ∧ Fr [] W w') := fun W => rcbegin_any c.cells c.muts c.regs c.globs ⟨by have := hbo.2.1.c0; omega, by have := hbo.2.1.c1; omega⟩ W
    clear hv hbo hl hwf
    obtain ⟨s0, hs0⟩ : ∃ s : HS, s = ⟨c, l, Acc.z⟩ := ⟨_, rfl⟩
    replace hs0 := hid hs0
    by_cases hnear : x.Near
    · have HX := fun {W : World} {h ab db : Nat} (H : HAt W h ab db (s0.doIt (aLoad 0))) => col_load H x hx hnear
      have HY := fun {W : World} {r rd cap : Nat} {ext : List Value} (H : RAt W r rd cap ext s0) => rcol_any H x hx hnear
      have HFa := hid (fun W => far_no x hnear W)
      obtain ⟨res, hres⟩ : ∃ r, r = colM s0 x := ⟨_, rfl⟩
      rw [← hres] at HX HY
      clear hres hnear hx HN
      obtain ⟨⟨line2, j2, cq2, cm_2, a2, p2, found2, tail2, cyc2⟩, fl0, s2⟩ := res
      simp only [ColV.val] at HX HY
      have HAl := fun {W : World} {h ab db r rd cap : Nat} {ext : List Value} (H : HAt W h ab db s2) (R : RAt W r rd cap ext s2) => hid (by have := alike_any H R; simp only [decide_true, Bool.and_self] at this; exact this)
      obtain ⟨line, j, cq, cm_, a, p, found, tail, cyc⟩ := x
      unfold ColV.val
      obtain ⟨cc, cm, cr, cg⟩ := c
      simp only at g1 g2 g3
      go_enter Try.func22, Try.ntmps22
      have hX := Blk.new (w.alloc (.cells #[.int .i64 cc, .int .i64 cm, .int .i64 cr, .int .i64 cg] 45)) [.int .i64 line, .int .i64 j, .int .i64 cq, .int .i64 cm_, .int .u64 a, .int .u64 p, .bool found, .int .i64 tail, .int .i64 cyc] 86
      have hB := (Blk.new w [.int .i64 cc, .int .i64 cm, .int .i64 cr, .int .i64 cg] 45).alloc (.cells #[.int .i64 line, .int .i64 j, .int .i64 cq, .int .i64 cm_, .int .u64 a, .int .u64 p, .bool found, .int .i64 tail, .int .i64 cyc] 86)
      simp only [World.size_alloc] at hX
      have hFF := ((Fr.refl [] w).alloc (.cells #[.int .i64 cc, .int .i64 cm, .int .i64 cr, .int .i64 cg] 45)).alloc (.cells #[.int .i64 line, .int .i64 j, .int .i64 cq, .int .i64 cm_, .int .u64 a, .int .u64 p, .bool found, .int .i64 tail, .int .i64 cyc] 86)
      have kX := hX.cell
      have kB := hB.cell
      go_wp2_with (first | (go_at_call 82; refine (awake19_any _).mono ?_; rintro e w2 ⟨rfl, hF2⟩; (have hB := hB.kept hF2 (by simp)); (have kB := hB.cell); (have hX := hX.kept hF2 (by simp)); (have kX := hX.cell); (have hFF := hFF.trans hF2)))
      have hX := hX.drew
      have hB := hB.drew
      have hFF := hFF.drew
      have kX := hX.cell
      have kB := hB.cell
      refine wp_region_held_drew (S := (fun w' => w'.cell? ⟨w.heap.size + 1, 0, none⟩ = some (.int .i64 line) ∧ w'.cell? ⟨w.heap.size + 1, 1, none⟩ = some (.int .i64 j) ∧ w'.cell? ⟨w.heap.size + 1, 2, none⟩ = some (.int .i64 cq) ∧ w'.cell? ⟨w.heap.size + 1, 3, none⟩ = some (.int .i64 cm_) ∧ w'.cell? ⟨w.heap.size + 1, 4, none⟩ = some (.int .u64 a) ∧ w'.cell? ⟨w.heap.size + 1, 5, none⟩ = some (.int .u64 p) ∧ w'.cell? ⟨w.heap.size + 1, 6, none⟩ = some (.bool found) ∧ w'.cell? ⟨w.heap.size + 1, 7, none⟩ = some (.int .i64 tail) ∧ w'.cell? ⟨w.heap.size + 1, 8, none⟩ = some (.int .i64 cyc))) (by kernel_rfl) ?_ (fun hHeld => ?_)
      · (try dsimp only); go_keep
      refine wpAnyH_take (i := 0) (v := ?_) rfl (by kernel_rfl) (by kernel_rfl) (by kernel_rfl) (fun _ _ _ h => h) (Or.inl ⟨by rfl, ?_⟩) (by assumption) ?_
      rotate_left
      · intro w hSw; (try dsimp only at hSw); go_simp; first | done | with_reducible rfl
      try simp only [Act.put, List.getElem_toArray, List.getElem_cons_succ, List.getElem_cons_zero, List.setIfInBounds_toArray, List.set_cons_zero, List.set_cons_succ]
      refine wpAnyH_take (i := 2) (v := ?_) rfl (by kernel_rfl) (by kernel_rfl) (by kernel_rfl) (fun _ _ _ h => h) (Or.inl ⟨by rfl, ?_⟩) (by assumption) ?_
      rotate_left
      · intro w hSw; (try dsimp only at hSw); go_simp; first | done | with_reducible rfl
      try simp only [Act.put, List.getElem_toArray, List.getElem_cons_succ, List.getElem_cons_zero, List.setIfInBounds_toArray, List.set_cons_zero, List.set_cons_succ]
      refine wpAnyH_ready (rs := [1]) (by kernel_rfl) (by simp) ?_
      refine AllReadyH.cons rfl (fun K hK => ?_) AllReadyH.nil
      go_simp
      go_at_call 83
      refine (HM1.out _).mono ?_
      rintro e w4 ⟨rfl, hF2⟩
      (have hB := hB.kept hF2 List.not_mem_nil)
      (have kB := hB.cell)
      (have hX := hX.kept hF2 List.not_mem_nil)
      (have kX := hX.cell)
      (have hFF := hFF.trans hF2)
      go_wp2_with fail
      refine hK.out _ _ ?_ (fun hHeld => ?_)
      · (try dsimp only); go_keep
      clear hK K
      try simp only [Act.put, List.getElem_toArray, List.getElem_cons_succ, List.getElem_cons_zero, List.setIfInBounds_toArray, List.set_cons_zero, List.set_cons_succ]
      refine wpAnyH_ready (rs := [3]) (by kernel_rfl) (by simp) ?_
      refine AllReadyH.cons rfl (fun K hK => ?_) AllReadyH.nil
      go_simp
      go_at_call 84
      refine (HM2.out _).mono ?_
      rintro e w4 ⟨rfl, hF2⟩
      (have hB := hB.kept hF2 List.not_mem_nil)
      (have kB := hB.cell)
      (have hX := hX.kept hF2 List.not_mem_nil)
      (have kX := hX.cell)
      (have hFF := hFF.trans hF2)
      go_wp2_with fail
      refine hK.out _ _ ?_ (fun hHeld => ?_)
      · (try dsimp only); go_keep
      clear hK K
      try simp only [Act.put, List.getElem_toArray, List.getElem_cons_succ, List.getElem_cons_zero, List.setIfInBounds_toArray, List.set_cons_zero, List.set_cons_succ]
      refine wpAnyH_take (i := 4) (v := ?_) rfl (by kernel_rfl) (by kernel_rfl) (by kernel_rfl) (fun _ _ _ h => h) (Or.inl ⟨by rfl, ?_⟩) (by assumption) ?_
      rotate_left
      · intro w hSw; (try dsimp only at hSw); go_simp; first | done | with_reducible rfl
      try simp only [Act.put, List.getElem_toArray, List.getElem_cons_succ, List.getElem_cons_zero, List.setIfInBounds_toArray, List.set_cons_zero, List.set_cons_succ]
      refine wpAnyH_take (i := 5) (v := ?_) rfl (by kernel_rfl) (by kernel_rfl) (by kernel_rfl) (fun _ _ _ h => h) (Or.inl ⟨by rfl, ?_⟩) (by assumption) ?_
      rotate_left
      · intro w hSw; (try dsimp only at hSw); go_simp; first | done | with_reducible rfl
      try simp only [Act.put, List.getElem_toArray, List.getElem_cons_succ, List.getElem_cons_zero, List.setIfInBounds_toArray, List.set_cons_zero, List.set_cons_succ]
      refine wpAnyH_take (i := 6) (v := ?_) rfl (by kernel_rfl) (by kernel_rfl) (by kernel_rfl) (fun _ _ _ h => h) (Or.inl ⟨by rfl, ?_⟩) (by assumption) ?_
      rotate_left
      · intro w hSw; (try dsimp only at hSw); go_simp; first | done | with_reducible rfl
      try simp only [Act.put, List.getElem_toArray, List.getElem_cons_succ, List.getElem_cons_zero, List.setIfInBounds_toArray, List.set_cons_zero, List.set_cons_succ]
      refine wpAnyH_take (i := 8) (v := ?_) rfl (by kernel_rfl) (by kernel_rfl) (by kernel_rfl) (fun _ _ _ h => h) (Or.inl ⟨by rfl, ?_⟩) (by assumption) ?_
      rotate_left
      · intro w hSw; (try dsimp only at hSw); go_simp; first | done | with_reducible rfl
      try simp only [Act.put, List.getElem_toArray, List.getElem_cons_succ, List.getElem_cons_zero, List.setIfInBounds_toArray, List.set_cons_zero, List.set_cons_succ]
      refine wpAnyH_ready (rs := [7]) (by kernel_rfl) (by simp) ?_
      refine AllReadyH.cons rfl (fun K hK => ?_) AllReadyH.nil
      go_simp
      go_at_call 85
      refine (HSw.out _).mono ?_
      rintro e w4 ⟨rfl, hF2⟩
      (have hB := hB.kept hF2 List.not_mem_nil)
      (have kB := hB.cell)
      (have hX := hX.kept hF2 List.not_mem_nil)
      (have kX := hX.cell)
      (have hFF := hFF.trans hF2)
      go_wp2_with fail
      refine hK.out _ _ ?_ (fun hHeld => ?_)
      · (try dsimp only); go_keep
      clear hK K
      try simp only [Act.put, List.getElem_toArray, List.getElem_cons_succ, List.getElem_cons_zero, List.setIfInBounds_toArray, List.set_cons_zero, List.set_cons_succ]
      refine wpAnyH_take (i := 9) (v := ?_) rfl (by kernel_rfl) (by kernel_rfl) (by kernel_rfl) (fun _ _ _ h => h) (Or.inl ⟨by rfl, ?_⟩) (by assumption) ?_
      rotate_left
      · intro w hSw; (try dsimp only at hSw); go_simp; first | done | with_reducible rfl
      try simp only [Act.put, List.getElem_toArray, List.getElem_cons_succ, List.getElem_cons_zero, List.setIfInBounds_toArray, List.set_cons_zero, List.set_cons_succ]
      refine wpAnyH_take (i := 10) (v := ?_) rfl (by kernel_rfl) (by kernel_rfl) (by kernel_rfl) (fun _ _ _ h => h) (Or.inl ⟨by rfl, ?_⟩) (by assumption) ?_
      rotate_left
      · intro w hSw; (try dsimp only at hSw); go_simp; first | done | with_reducible rfl
      try simp only [Act.put, List.getElem_toArray, List.getElem_cons_succ, List.getElem_cons_zero, List.setIfInBounds_toArray, List.set_cons_zero, List.set_cons_succ]
      refine wpAnyH_done (by kernel_rfl) ?_ _
      clear HM1 HM2 HSw
      go_wp2_with (first | (go_at_call 62; refine (HBo _ hFF).out.mono ?_; rintro e w5 ⟨⟨h, ab, db, r, rd, cap, ext, rfl, HH, HR, q1, q2, q3, q4, q5, d1, d2, d3, d4, d5, d6⟩, hF2⟩; rw [← hs0.out] at HH HR; (have hXl := hX.lt); (have hX := hX.kept hF2 (by simp)); (have hB := hB.kept hF2 (by simp)); (have nBk : w.heap.size ∉ [h, db] := by simp; omega); (have nBr : w.heap.size ∉ [r, rd] := by simp; omega); (have nX : w.heap.size + 1 ∉ [h, db] := by simp; omega); (have nR : r ∉ [h, db] := by simp; omega); (have nRd : rd ∉ [h, db] := by simp; omega); (have nH : h ∉ [r, rd] := by simp; omega); (have nAb : ab ∉ [r, rd] := by simp; omega); (have nDb : db ∉ [r, rd] := by simp; omega); (have sF := hFF.size); (have hSS := fun i (m : i ∈ [h, db]) (l : i < w.heap.size) => (show i ∈ ([] : List Nat) by simp at m; omega)); (have hST := fun i (m : i ∈ [r, rd]) (l : i < w.heap.size) => (show i ∈ ([] : List Nat) by simp at m; omega)); (have kX := hX.cell); (have hFF := hFF.trans hF2); clear d1 d2 d3 d4 d5 d6 q1 q2 q3 q4 q5 sF) | (go_at_call 63; refine (HFa.out _).mono ?_; rintro e w5 ⟨rfl, hF2⟩; (have HH := HH.kept0 hF2); (have HR := HR.kept0 hF2); (have hX := hX.kept hF2 (by simp)); (have kX := hX.cell); (have hFF := hFF.trans hF2); (have hB := hB.kept hF2 (by simp))) | (go_at_call 87; refine (load_u rfl HH).mono ?_; rintro e w9 ⟨rfl, HH, hF2⟩; (have HR := HR.kept hF2 nR nRd); (have hX := hX.kept hF2 nX); (have kX := hX.cell); (have hFF := hFF.trans_new hF2 hSS); (have hB := hB.kept hF2 nBk)) | (go_at_call 86; refine (HX HH).mono ?_; rintro e w6 ⟨rfl, HH2, hF2⟩; (have HR := HR.kept hF2 nR nRd); (have hX := hX.kept hF2 nX); (have kX := (hX.alloc (.cells #[.int .i64 line2, .int .i64 j2, .int .i64 cq2, .int .i64 cm_2, .int .u64 a2, .int .u64 p2, .bool found2, .int .i64 tail2, .int .i64 cyc2] 86)).cell); (have hFF := hFF.trans_new hF2 hSS); (have hB := hB.kept hF2 nBk)) | (go_at_call 88; refine (HY (HR.alloc _)).mono ?_; rintro e w7 ⟨rfl, HR2, hF2⟩; (have HH2 := (HH2.alloc _).kept hF2 nH nAb nDb); (have nA : w6.heap.size ∉ [r, rd] := by have := HR.blk.lt; have := HR.ar.dat.lt; simp; omega); (have hA := (Blk.new w6 [.int .i64 line2, .int .i64 j2, .int .i64 cq2, .int .i64 cm_2, .int .u64 a2, .int .u64 p2, .bool found2, .int .i64 tail2, .int .i64 cyc2] 86).kept hF2 nA); (have kA := (hA.alloc (.cells #[.int .i64 line2, .int .i64 j2, .int .i64 cq2, .int .i64 cm_2, .int .u64 a2, .int .u64 p2, .bool found2, .int .i64 tail2, .int .i64 cyc2] 86)).cell); (have hFF := (hFF.alloc _).trans_new hF2 hST); (have hB := (hB.alloc _).kept hF2 nBr)))
      have HH2 := (HH2.alloc (.cells #[.int .i64 line2, .int .i64 j2, .int .i64 cq2, .int .i64 cm_2, .int .u64 a2, .int .u64 p2, .bool found2, .int .i64 tail2, .int .i64 cyc2] 86)).drew
      have HR2 := (HR2.alloc (.cells #[.int .i64 line2, .int .i64 j2, .int .i64 cq2, .int .i64 cm_2, .int .u64 a2, .int .u64 p2, .bool found2, .int .i64 tail2, .int .i64 cyc2] 86)).drew
      have hA2 := (hA.alloc (.cells #[.int .i64 line2, .int .i64 j2, .int .i64 cq2, .int .i64 cm_2, .int .u64 a2, .int .u64 p2, .bool found2, .int .i64 tail2, .int .i64 cyc2] 86)).drew
      have hC2 := (Blk.new w7 [.int .i64 line2, .int .i64 j2, .int .i64 cq2, .int .i64 cm_2, .int .u64 a2, .int .u64 p2, .bool found2, .int .i64 tail2, .int .i64 cyc2] 86).drew
      have hB2 := (hB.alloc (.cells #[.int .i64 line2, .int .i64 j2, .int .i64 cq2, .int .i64 cm_2, .int .u64 a2, .int .u64 p2, .bool found2, .int .i64 tail2, .int .i64 cyc2] 86)).drew
      have hFF := (hFF.alloc (.cells #[.int .i64 line2, .int .i64 j2, .int .i64 cq2, .int .i64 cm_2, .int .u64 a2, .int .u64 p2, .bool found2, .int .i64 tail2, .int .i64 cyc2] 86)).drew
      have kA2 := hA2.cell
      have kC2 := hC2.cell
      have kB2 := hB2.cell
      clear hA kA hX kX hB kB
      go_region_held3 (fun w' => w'.cell? ⟨w6.heap.size, 0, none⟩ = some (.int .i64 line2) ∧ w'.cell? ⟨w6.heap.size, 1, none⟩ = some (.int .i64 j2) ∧ w'.cell? ⟨w6.heap.size, 2, none⟩ = some (.int .i64 cq2) ∧ w'.cell? ⟨w6.heap.size, 3, none⟩ = some (.int .i64 cm_2) ∧ w'.cell? ⟨w6.heap.size, 4, none⟩ = some (.int .u64 a2) ∧ w'.cell? ⟨w6.heap.size, 5, none⟩ = some (.int .u64 p2) ∧ w'.cell? ⟨w6.heap.size, 6, none⟩ = some (.bool found2) ∧ w'.cell? ⟨w6.heap.size, 7, none⟩ = some (.int .i64 tail2) ∧ w'.cell? ⟨w6.heap.size, 8, none⟩ = some (.int .i64 cyc2) ∧ w'.cell? ⟨w7.heap.size, 0, none⟩ = some (.int .i64 line2) ∧ w'.cell? ⟨w7.heap.size, 1, none⟩ = some (.int .i64 j2) ∧ w'.cell? ⟨w7.heap.size, 2, none⟩ = some (.int .i64 cq2) ∧ w'.cell? ⟨w7.heap.size, 3, none⟩ = some (.int .i64 cm_2) ∧ w'.cell? ⟨w7.heap.size, 4, none⟩ = some (.int .u64 a2) ∧ w'.cell? ⟨w7.heap.size, 5, none⟩ = some (.int .u64 p2) ∧ w'.cell? ⟨w7.heap.size, 6, none⟩ = some (.bool found2) ∧ w'.cell? ⟨w7.heap.size, 7, none⟩ = some (.int .i64 tail2) ∧ w'.cell? ⟨w7.heap.size, 8, none⟩ = some (.int .i64 cyc2) ∧ w'.cell? ⟨w.heap.size, 0, none⟩ = some (.int .i64 cc) ∧ w'.cell? ⟨w.heap.size, 1, none⟩ = some (.int .i64 cm) ∧ w'.cell? ⟨w.heap.size, 2, none⟩ = some (.int .i64 cr) ∧ w'.cell? ⟨w.heap.size, 3, none⟩ = some (.int .i64 cg)) (go_keep)
        (first | (go_at_call 66; refine (HAl HH2 HR2).out.mono ?_; rintro e w8 ⟨rfl, hF2⟩; (have hA2 := hA2.kept hF2 List.not_mem_nil); (have kA2 := hA2.cell); (have hC2 := hC2.kept hF2 List.not_mem_nil); (have kC2 := hC2.cell); (have hB2 := hB2.kept hF2 List.not_mem_nil); (have kB2 := hB2.cell); (have HH2 := HH2.kept0 hF2); (have HR2 := HR2.kept0 hF2); (have hFF := hFF.trans hF2)) | (go_at_call 89; refine (HB1.out _).mono ?_; rintro e w8 ⟨rfl, hF2⟩; (have hA2 := hA2.kept hF2 List.not_mem_nil); (have kA2 := hA2.cell); (have hC2 := hC2.kept hF2 List.not_mem_nil); (have kC2 := hC2.cell); (have hB2 := hB2.kept hF2 List.not_mem_nil); (have kB2 := hB2.cell); (have HH2 := HH2.kept0 hF2); (have HR2 := HR2.kept0 hF2); (have hFF := hFF.trans hF2)) | (go_at_call 90; refine (HB2.out _).mono ?_; rintro e w8 ⟨rfl, hF2⟩; (have hA2 := hA2.kept hF2 List.not_mem_nil); (have kA2 := hA2.cell); (have hC2 := hC2.kept hF2 List.not_mem_nil); (have kC2 := hC2.cell); (have hB2 := hB2.kept hF2 List.not_mem_nil); (have kB2 := hB2.cell); (have HH2 := HH2.kept0 hF2); (have HR2 := HR2.kept0 hF2); (have hFF := hFF.trans hF2)))
      go_wp2
      go_ret
      exact ⟨rfl, hFF⟩
    · have HFa := hid (fun W => far_yes x hnear W)
      clear hx hnear
      obtain ⟨line, j, cq, cm_, a, p, found, tail, cyc⟩ := x
      unfold ColV.val
      obtain ⟨cc, cm, cr, cg⟩ := c
      simp only at g1 g2 g3
      go_enter Try.func22, Try.ntmps22
      have hX := Blk.new (w.alloc (.cells #[.int .i64 cc, .int .i64 cm, .int .i64 cr, .int .i64 cg] 45)) [.int .i64 line, .int .i64 j, .int .i64 cq, .int .i64 cm_, .int .u64 a, .int .u64 p, .bool found, .int .i64 tail, .int .i64 cyc] 86
      have hB := (Blk.new w [.int .i64 cc, .int .i64 cm, .int .i64 cr, .int .i64 cg] 45).alloc (.cells #[.int .i64 line, .int .i64 j, .int .i64 cq, .int .i64 cm_, .int .u64 a, .int .u64 p, .bool found, .int .i64 tail, .int .i64 cyc] 86)
      simp only [World.size_alloc] at hX
      have hFF := ((Fr.refl [] w).alloc (.cells #[.int .i64 cc, .int .i64 cm, .int .i64 cr, .int .i64 cg] 45)).alloc (.cells #[.int .i64 line, .int .i64 j, .int .i64 cq, .int .i64 cm_, .int .u64 a, .int .u64 p, .bool found, .int .i64 tail, .int .i64 cyc] 86)
      have kX := hX.cell
      have kB := hB.cell
      go_wp2_with (first | (go_at_call 82; refine (awake19_any _).mono ?_; rintro e w2 ⟨rfl, hF2⟩; (have hB := hB.kept hF2 (by simp)); (have kB := hB.cell); (have hX := hX.kept hF2 (by simp)); (have kX := hX.cell); (have hFF := hFF.trans hF2)))
      have hX := hX.drew
      have hB := hB.drew
      have hFF := hFF.drew
      have kX := hX.cell
      have kB := hB.cell
      refine wp_region_held_drew (S := (fun w' => w'.cell? ⟨w.heap.size + 1, 0, none⟩ = some (.int .i64 line) ∧ w'.cell? ⟨w.heap.size + 1, 1, none⟩ = some (.int .i64 j) ∧ w'.cell? ⟨w.heap.size + 1, 2, none⟩ = some (.int .i64 cq) ∧ w'.cell? ⟨w.heap.size + 1, 3, none⟩ = some (.int .i64 cm_) ∧ w'.cell? ⟨w.heap.size + 1, 4, none⟩ = some (.int .u64 a) ∧ w'.cell? ⟨w.heap.size + 1, 5, none⟩ = some (.int .u64 p) ∧ w'.cell? ⟨w.heap.size + 1, 6, none⟩ = some (.bool found) ∧ w'.cell? ⟨w.heap.size + 1, 7, none⟩ = some (.int .i64 tail) ∧ w'.cell? ⟨w.heap.size + 1, 8, none⟩ = some (.int .i64 cyc))) (by kernel_rfl) ?_ (fun hHeld => ?_)
      · (try dsimp only); go_keep
      refine wpAnyH_take (i := 0) (v := ?_) rfl (by kernel_rfl) (by kernel_rfl) (by kernel_rfl) (fun _ _ _ h => h) (Or.inl ⟨by rfl, ?_⟩) (by assumption) ?_
      rotate_left
      · intro w hSw; (try dsimp only at hSw); go_simp; first | done | with_reducible rfl
      try simp only [Act.put, List.getElem_toArray, List.getElem_cons_succ, List.getElem_cons_zero, List.setIfInBounds_toArray, List.set_cons_zero, List.set_cons_succ]
      refine wpAnyH_take (i := 2) (v := ?_) rfl (by kernel_rfl) (by kernel_rfl) (by kernel_rfl) (fun _ _ _ h => h) (Or.inl ⟨by rfl, ?_⟩) (by assumption) ?_
      rotate_left
      · intro w hSw; (try dsimp only at hSw); go_simp; first | done | with_reducible rfl
      try simp only [Act.put, List.getElem_toArray, List.getElem_cons_succ, List.getElem_cons_zero, List.setIfInBounds_toArray, List.set_cons_zero, List.set_cons_succ]
      refine wpAnyH_ready (rs := [1]) (by kernel_rfl) (by simp) ?_
      refine AllReadyH.cons rfl (fun K hK => ?_) AllReadyH.nil
      go_simp
      go_at_call 83
      refine (HM1.out _).mono ?_
      rintro e w4 ⟨rfl, hF2⟩
      (have hB := hB.kept hF2 List.not_mem_nil)
      (have kB := hB.cell)
      (have hX := hX.kept hF2 List.not_mem_nil)
      (have kX := hX.cell)
      (have hFF := hFF.trans hF2)
      go_wp2_with fail
      refine hK.out _ _ ?_ (fun hHeld => ?_)
      · (try dsimp only); go_keep
      clear hK K
      try simp only [Act.put, List.getElem_toArray, List.getElem_cons_succ, List.getElem_cons_zero, List.setIfInBounds_toArray, List.set_cons_zero, List.set_cons_succ]
      refine wpAnyH_ready (rs := [3]) (by kernel_rfl) (by simp) ?_
      refine AllReadyH.cons rfl (fun K hK => ?_) AllReadyH.nil
      go_simp
      go_at_call 84
      refine (HM2.out _).mono ?_
      rintro e w4 ⟨rfl, hF2⟩
      (have hB := hB.kept hF2 List.not_mem_nil)
      (have kB := hB.cell)
      (have hX := hX.kept hF2 List.not_mem_nil)
      (have kX := hX.cell)
      (have hFF := hFF.trans hF2)
      go_wp2_with fail
      refine hK.out _ _ ?_ (fun hHeld => ?_)
      · (try dsimp only); go_keep
      clear hK K
      try simp only [Act.put, List.getElem_toArray, List.getElem_cons_succ, List.getElem_cons_zero, List.setIfInBounds_toArray, List.set_cons_zero, List.set_cons_succ]
      refine wpAnyH_take (i := 4) (v := ?_) rfl (by kernel_rfl) (by kernel_rfl) (by kernel_rfl) (fun _ _ _ h => h) (Or.inl ⟨by rfl, ?_⟩) (by assumption) ?_
      rotate_left
      · intro w hSw; (try dsimp only at hSw); go_simp; first | done | with_reducible rfl
      try simp only [Act.put, List.getElem_toArray, List.getElem_cons_succ, List.getElem_cons_zero, List.setIfInBounds_toArray, List.set_cons_zero, List.set_cons_succ]
      refine wpAnyH_take (i := 5) (v := ?_) rfl (by kernel_rfl) (by kernel_rfl) (by kernel_rfl) (fun _ _ _ h => h) (Or.inl ⟨by rfl, ?_⟩) (by assumption) ?_
      rotate_left
      · intro w hSw; (try dsimp only at hSw); go_simp; first | done | with_reducible rfl
      try simp only [Act.put, List.getElem_toArray, List.getElem_cons_succ, List.getElem_cons_zero, List.setIfInBounds_toArray, List.set_cons_zero, List.set_cons_succ]
      refine wpAnyH_take (i := 6) (v := ?_) rfl (by kernel_rfl) (by kernel_rfl) (by kernel_rfl) (fun _ _ _ h => h) (Or.inl ⟨by rfl, ?_⟩) (by assumption) ?_
      rotate_left
      · intro w hSw; (try dsimp only at hSw); go_simp; first | done | with_reducible rfl
      try simp only [Act.put, List.getElem_toArray, List.getElem_cons_succ, List.getElem_cons_zero, List.setIfInBounds_toArray, List.set_cons_zero, List.set_cons_succ]
      refine wpAnyH_take (i := 8) (v := ?_) rfl (by kernel_rfl) (by kernel_rfl) (by kernel_rfl) (fun _ _ _ h => h) (Or.inl ⟨by rfl, ?_⟩) (by assumption) ?_
      rotate_left
      · intro w hSw; (try dsimp only at hSw); go_simp; first | done | with_reducible rfl
      try simp only [Act.put, List.getElem_toArray, List.getElem_cons_succ, List.getElem_cons_zero, List.setIfInBounds_toArray, List.set_cons_zero, List.set_cons_succ]
      refine wpAnyH_ready (rs := [7]) (by kernel_rfl) (by simp) ?_
      refine AllReadyH.cons rfl (fun K hK => ?_) AllReadyH.nil
      go_simp
      go_at_call 85
      refine (HSw.out _).mono ?_
      rintro e w4 ⟨rfl, hF2⟩
      (have hB := hB.kept hF2 List.not_mem_nil)
      (have kB := hB.cell)
      (have hX := hX.kept hF2 List.not_mem_nil)
      (have kX := hX.cell)
      (have hFF := hFF.trans hF2)
      go_wp2_with fail
      refine hK.out _ _ ?_ (fun hHeld => ?_)
      · (try dsimp only); go_keep
      clear hK K
      try simp only [Act.put, List.getElem_toArray, List.getElem_cons_succ, List.getElem_cons_zero, List.setIfInBounds_toArray, List.set_cons_zero, List.set_cons_succ]
      refine wpAnyH_take (i := 9) (v := ?_) rfl (by kernel_rfl) (by kernel_rfl) (by kernel_rfl) (fun _ _ _ h => h) (Or.inl ⟨by rfl, ?_⟩) (by assumption) ?_
      rotate_left
      · intro w hSw; (try dsimp only at hSw); go_simp; first | done | with_reducible rfl
      try simp only [Act.put, List.getElem_toArray, List.getElem_cons_succ, List.getElem_cons_zero, List.setIfInBounds_toArray, List.set_cons_zero, List.set_cons_succ]
      refine wpAnyH_take (i := 10) (v := ?_) rfl (by kernel_rfl) (by kernel_rfl) (by kernel_rfl) (fun _ _ _ h => h) (Or.inl ⟨by rfl, ?_⟩) (by assumption) ?_
      rotate_left
      · intro w hSw; (try dsimp only at hSw); go_simp; first | done | with_reducible rfl
      try simp only [Act.put, List.getElem_toArray, List.getElem_cons_succ, List.getElem_cons_zero, List.setIfInBounds_toArray, List.set_cons_zero, List.set_cons_succ]
      refine wpAnyH_done (by kernel_rfl) ?_ _
      clear HM1 HM2 HSw
      go_wp2_with (first | (go_at_call 62; refine (HBo _ hFF).out.mono ?_; rintro e w5 ⟨⟨h, ab, db, r, rd, cap, ext, rfl, HH, HR, q1, q2, q3, q4, q5, d1, d2, d3, d4, d5, d6⟩, hF2⟩; rw [← hs0.out] at HH HR; (have hXl := hX.lt); (have hX := hX.kept hF2 (by simp)); (have hB := hB.kept hF2 (by simp)); (have nBk : w.heap.size ∉ [h, db] := by simp; omega); (have nBr : w.heap.size ∉ [r, rd] := by simp; omega); (have nX : w.heap.size + 1 ∉ [h, db] := by simp; omega); (have nR : r ∉ [h, db] := by simp; omega); (have nRd : rd ∉ [h, db] := by simp; omega); (have nH : h ∉ [r, rd] := by simp; omega); (have nAb : ab ∉ [r, rd] := by simp; omega); (have nDb : db ∉ [r, rd] := by simp; omega); (have sF := hFF.size); (have hSS := fun i (m : i ∈ [h, db]) (l : i < w.heap.size) => (show i ∈ ([] : List Nat) by simp at m; omega)); (have hST := fun i (m : i ∈ [r, rd]) (l : i < w.heap.size) => (show i ∈ ([] : List Nat) by simp at m; omega)); (have kX := hX.cell); (have hFF := hFF.trans hF2); clear d1 d2 d3 d4 d5 d6 q1 q2 q3 q4 q5 sF) | (go_at_call 63; refine (HFa.out _).mono ?_; rintro e w5 ⟨rfl, hF2⟩; (have HH := HH.kept0 hF2); (have HR := HR.kept0 hF2); (have hX := hX.kept hF2 (by simp)); (have kX := hX.cell); (have hFF := hFF.trans hF2); (have hB := hB.kept hF2 (by simp))) | (go_at_call 86; refine (HN.out _).mono ?_; rintro e w6 ⟨rfl, hF2⟩; (have hX := hX.kept hF2 List.not_mem_nil); (have kX := (hX.alloc (.cells #[.int .i64 line, .int .i64 j, .int .i64 cq, .int .i64 cm_, .int .u64 a, .int .u64 p, .bool found, .int .i64 tail, .int .i64 cyc] 86)).cell); (have kZ := (Blk.new w6 [.int .i64 line, .int .i64 j, .int .i64 cq, .int .i64 cm_, .int .u64 a, .int .u64 p, .bool found, .int .i64 tail, .int .i64 cyc] 86).cell); (have hFF := hFF.trans hF2)))
      go_ret
      exact ⟨rfl, hFF.alloc _⟩
  · have HBo := fun W (f : Fr [] w W) => hid (both_no (w := W) c _ l (hv.kept0 f) hbo hl)
    clear hv hbo hl hwf hx
    obtain ⟨line, j, cq, cm_, a, p, found, tail, cyc⟩ := x
    unfold ColV.val
    obtain ⟨cc, cm, cr, cg⟩ := c
    simp only at g1 g2 g3
    go_enter Try.func22, Try.ntmps22
    have hX := Blk.new (w.alloc (.cells #[.int .i64 cc, .int .i64 cm, .int .i64 cr, .int .i64 cg] 45)) [.int .i64 line, .int .i64 j, .int .i64 cq, .int .i64 cm_, .int .u64 a, .int .u64 p, .bool found, .int .i64 tail, .int .i64 cyc] 86
    have hB := (Blk.new w [.int .i64 cc, .int .i64 cm, .int .i64 cr, .int .i64 cg] 45).alloc (.cells #[.int .i64 line, .int .i64 j, .int .i64 cq, .int .i64 cm_, .int .u64 a, .int .u64 p, .bool found, .int .i64 tail, .int .i64 cyc] 86)
    simp only [World.size_alloc] at hX
    have hFF := ((Fr.refl [] w).alloc (.cells #[.int .i64 cc, .int .i64 cm, .int .i64 cr, .int .i64 cg] 45)).alloc (.cells #[.int .i64 line, .int .i64 j, .int .i64 cq, .int .i64 cm_, .int .u64 a, .int .u64 p, .bool found, .int .i64 tail, .int .i64 cyc] 86)
    have kX := hX.cell
    have kB := hB.cell
    go_wp2_with (first | (go_at_call 82; refine (awake19_any _).mono ?_; rintro e w2 ⟨rfl, hF2⟩; (have hB := hB.kept hF2 (by simp)); (have kB := hB.cell); (have hX := hX.kept hF2 (by simp)); (have kX := hX.cell); (have hFF := hFF.trans hF2)))
    have hX := hX.drew
    have hB := hB.drew
    have hFF := hFF.drew
    have kX := hX.cell
    have kB := hB.cell
    refine wp_region_held_drew (S := (fun w' => w'.cell? ⟨w.heap.size + 1, 0, none⟩ = some (.int .i64 line) ∧ w'.cell? ⟨w.heap.size + 1, 1, none⟩ = some (.int .i64 j) ∧ w'.cell? ⟨w.heap.size + 1, 2, none⟩ = some (.int .i64 cq) ∧ w'.cell? ⟨w.heap.size + 1, 3, none⟩ = some (.int .i64 cm_) ∧ w'.cell? ⟨w.heap.size + 1, 4, none⟩ = some (.int .u64 a) ∧ w'.cell? ⟨w.heap.size + 1, 5, none⟩ = some (.int .u64 p) ∧ w'.cell? ⟨w.heap.size + 1, 6, none⟩ = some (.bool found) ∧ w'.cell? ⟨w.heap.size + 1, 7, none⟩ = some (.int .i64 tail) ∧ w'.cell? ⟨w.heap.size + 1, 8, none⟩ = some (.int .i64 cyc))) (by kernel_rfl) ?_ (fun hHeld => ?_)
    · (try dsimp only); go_keep
    refine wpAnyH_take (i := 0) (v := ?_) rfl (by kernel_rfl) (by kernel_rfl) (by kernel_rfl) (fun _ _ _ h => h) (Or.inl ⟨by rfl, ?_⟩) (by assumption) ?_
    rotate_left
    · intro w hSw; (try dsimp only at hSw); go_simp; first | done | with_reducible rfl
    try simp only [Act.put, List.getElem_toArray, List.getElem_cons_succ, List.getElem_cons_zero, List.setIfInBounds_toArray, List.set_cons_zero, List.set_cons_succ]
    refine wpAnyH_take (i := 2) (v := ?_) rfl (by kernel_rfl) (by kernel_rfl) (by kernel_rfl) (fun _ _ _ h => h) (Or.inl ⟨by rfl, ?_⟩) (by assumption) ?_
    rotate_left
    · intro w hSw; (try dsimp only at hSw); go_simp; first | done | with_reducible rfl
    try simp only [Act.put, List.getElem_toArray, List.getElem_cons_succ, List.getElem_cons_zero, List.setIfInBounds_toArray, List.set_cons_zero, List.set_cons_succ]
    refine wpAnyH_ready (rs := [1]) (by kernel_rfl) (by simp) ?_
    refine AllReadyH.cons rfl (fun K hK => ?_) AllReadyH.nil
    go_simp
    go_at_call 83
    refine (HM1.out _).mono ?_
    rintro e w4 ⟨rfl, hF2⟩
    (have hB := hB.kept hF2 List.not_mem_nil)
    (have kB := hB.cell)
    (have hX := hX.kept hF2 List.not_mem_nil)
    (have kX := hX.cell)
    (have hFF := hFF.trans hF2)
    go_wp2_with fail
    refine hK.out _ _ ?_ (fun hHeld => ?_)
    · (try dsimp only); go_keep
    clear hK K
    try simp only [Act.put, List.getElem_toArray, List.getElem_cons_succ, List.getElem_cons_zero, List.setIfInBounds_toArray, List.set_cons_zero, List.set_cons_succ]
    refine wpAnyH_ready (rs := [3]) (by kernel_rfl) (by simp) ?_
    refine AllReadyH.cons rfl (fun K hK => ?_) AllReadyH.nil
    go_simp
    go_at_call 84
    refine (HM2.out _).mono ?_
    rintro e w4 ⟨rfl, hF2⟩
    (have hB := hB.kept hF2 List.not_mem_nil)
    (have kB := hB.cell)
    (have hX := hX.kept hF2 List.not_mem_nil)
    (have kX := hX.cell)
    (have hFF := hFF.trans hF2)
    go_wp2_with fail
    refine hK.out _ _ ?_ (fun hHeld => ?_)
    · (try dsimp only); go_keep
    clear hK K
    try simp only [Act.put, List.getElem_toArray, List.getElem_cons_succ, List.getElem_cons_zero, List.setIfInBounds_toArray, List.set_cons_zero, List.set_cons_succ]
    refine wpAnyH_take (i := 4) (v := ?_) rfl (by kernel_rfl) (by kernel_rfl) (by kernel_rfl) (fun _ _ _ h => h) (Or.inl ⟨by rfl, ?_⟩) (by assumption) ?_
    rotate_left
    · intro w hSw; (try dsimp only at hSw); go_simp; first | done | with_reducible rfl
    try simp only [Act.put, List.getElem_toArray, List.getElem_cons_succ, List.getElem_cons_zero, List.setIfInBounds_toArray, List.set_cons_zero, List.set_cons_succ]
    refine wpAnyH_take (i := 5) (v := ?_) rfl (by kernel_rfl) (by kernel_rfl) (by kernel_rfl) (fun _ _ _ h => h) (Or.inl ⟨by rfl, ?_⟩) (by assumption) ?_
    rotate_left
    · intro w hSw; (try dsimp only at hSw); go_simp; first | done | with_reducible rfl
    try simp only [Act.put, List.getElem_toArray, List.getElem_cons_succ, List.getElem_cons_zero, List.setIfInBounds_toArray, List.set_cons_zero, List.set_cons_succ]
    refine wpAnyH_take (i := 6) (v := ?_) rfl (by kernel_rfl) (by kernel_rfl) (by kernel_rfl) (fun _ _ _ h => h) (Or.inl ⟨by rfl, ?_⟩) (by assumption) ?_
    rotate_left
    · intro w hSw; (try dsimp only at hSw); go_simp; first | done | with_reducible rfl
    try simp only [Act.put, List.getElem_toArray, List.getElem_cons_succ, List.getElem_cons_zero, List.setIfInBounds_toArray, List.set_cons_zero, List.set_cons_succ]
    refine wpAnyH_take (i := 8) (v := ?_) rfl (by kernel_rfl) (by kernel_rfl) (by kernel_rfl) (fun _ _ _ h => h) (Or.inl ⟨by rfl, ?_⟩) (by assumption) ?_
    rotate_left
    · intro w hSw; (try dsimp only at hSw); go_simp; first | done | with_reducible rfl
    try simp only [Act.put, List.getElem_toArray, List.getElem_cons_succ, List.getElem_cons_zero, List.setIfInBounds_toArray, List.set_cons_zero, List.set_cons_succ]
    refine wpAnyH_ready (rs := [7]) (by kernel_rfl) (by simp) ?_
    refine AllReadyH.cons rfl (fun K hK => ?_) AllReadyH.nil
    go_simp
    go_at_call 85
    refine (HSw.out _).mono ?_
    rintro e w4 ⟨rfl, hF2⟩
    (have hB := hB.kept hF2 List.not_mem_nil)
    (have kB := hB.cell)
    (have hX := hX.kept hF2 List.not_mem_nil)
    (have kX := hX.cell)
    (have hFF := hFF.trans hF2)
    go_wp2_with fail
    refine hK.out _ _ ?_ (fun hHeld => ?_)
    · (try dsimp only); go_keep
    clear hK K
    try simp only [Act.put, List.getElem_toArray, List.getElem_cons_succ, List.getElem_cons_zero, List.setIfInBounds_toArray, List.set_cons_zero, List.set_cons_succ]
    refine wpAnyH_take (i := 9) (v := ?_) rfl (by kernel_rfl) (by kernel_rfl) (by kernel_rfl) (fun _ _ _ h => h) (Or.inl ⟨by rfl, ?_⟩) (by assumption) ?_
    rotate_left
    · intro w hSw; (try dsimp only at hSw); go_simp; first | done | with_reducible rfl
    try simp only [Act.put, List.getElem_toArray, List.getElem_cons_succ, List.getElem_cons_zero, List.setIfInBounds_toArray, List.set_cons_zero, List.set_cons_succ]
    refine wpAnyH_take (i := 10) (v := ?_) rfl (by kernel_rfl) (by kernel_rfl) (by kernel_rfl) (fun _ _ _ h => h) (Or.inl ⟨by rfl, ?_⟩) (by assumption) ?_
    rotate_left
    · intro w hSw; (try dsimp only at hSw); go_simp; first | done | with_reducible rfl
    try simp only [Act.put, List.getElem_toArray, List.getElem_cons_succ, List.getElem_cons_zero, List.setIfInBounds_toArray, List.set_cons_zero, List.set_cons_succ]
    refine wpAnyH_done (by kernel_rfl) ?_ _
    clear HM1 HM2 HSw
    go_wp2_with (first | (go_at_call 62; refine (HBo _ hFF).out.mono ?_; rintro e w5 ⟨rfl, hF2⟩; (have hB := hB.kept hF2 (by simp)); (have kB := hB.cell); (have hX := hX.kept hF2 (by simp)); (have kX := hX.cell); (have hFF := hFF.trans hF2)) | (go_at_call 86; refine (HN.out _).mono ?_; rintro e w6 ⟨rfl, hF2⟩; (have hX := hX.kept hF2 List.not_mem_nil); (have kX := (hX.alloc (.cells #[.int .i64 line, .int .i64 j, .int .i64 cq, .int .i64 cm_, .int .u64 a, .int .u64 p, .bool found, .int .i64 tail, .int .i64 cyc] 86)).cell); (have kZ := (Blk.new w6 [.int .i64 line, .int .i64 j, .int .i64 cq, .int .i64 cm_, .int .u64 a, .int .u64 p, .bool found, .int .i64 tail, .int .i64 cyc] 86).cell); (have hFF := hFF.trans hF2)))
    go_ret
    exact ⟨rfl, hFF.alloc _⟩

theorem collectorSteps_any (c : Cfg) (v : Value) (l : List Int) (x : ColV) (w : World) (hx : x.Wf) (hv : RdS w v l.length (u64s l)) (hl : l.length ≤ 35184372088832) (hwf : ∀ y, y ∈ l → 0 ≤ y ∧ y < 18446744073709551616) :
    Calls Try.prog 22 #[c.val, v, x.val] w fun e w' => e = .returned (.bool true) ∧ Fr [] w w' := by
  by_cases h0 : x.line = 14
  · exact collectorSteps_any_md c v l x h0 w hx hv hl hwf
  by_cases h1 : x.line < 20
  · exact collectorSteps_any_lo c v l x ⟨h1, h0⟩ w hx hv hl hwf
  by_cases h2 : 24 < x.line
  · exact collectorSteps_any_hi c v l x h2 w hx hv hl hwf
  exact collectorSteps_any_in c v l x ⟨by omega, by omega⟩ w hx hv hl hwf

end Go.Proofs.Yteggckdgjecfmaa
