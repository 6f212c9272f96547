/- mudlarklaw15.RootsSteps: the walk. -/
import Derived.Test.YtinafadacgloaaaRootsAny
import Derived.Test.YtinafadacgloaaaRootsBeg
import Derived.Test.YtinafadacgloaaaNear
import Derived.Test.YtinafadacgloaaaAwake15
import Derived.Test.YtinafadacgloaaaLaw10
namespace Go.Proofs.Ytinafadacgloaaa
open Go.RowKit
set_option linter.unusedVariables false
set_option linter.unusedSimpArgs false

set_option maxRecDepth 100000 in
set_option maxHeartbeats 4000000 in
theorem rootsSteps_any (c : Cfg) (v : Value) (l : List Int) (x : ColV) (w : World) (hx : x.Wf) (hv : RdS w v l.length (u64s l)) (hl : l.length ≤ 35184372088832) (hwf : ∀ y, y ∈ l → 0 ≤ y ∧ y < 18446744073709551616) :
    Calls Try.prog 13 #[c.val, v, x.val] w fun e w' => e = .returned (.bool true) ∧ Fr [] w w' := by
  obtain ⟨ua, uc, rfl, hu⟩ := hv.elim
  clear hu
  have HS1 := hid (fun W => scanned_any x.line x.j x.c x.m x.a x.p x.tail x.cyc x.found W)
  have HS2 := hid (fun W => rscanned_any x.line x.j x.c x.m x.a x.p x.tail x.cyc x.found W)
  have HBg := hid (fun W => rbegin15_any x.line x.j x.c x.m x.a x.p x.tail x.cyc x.found W)
  obtain ⟨q, hq⟩ : ∃ q, q = scannedN x.line x.j := ⟨_, rfl⟩
  rw [← hq] at HS1 HS2
  clear hq
  have HN := hid (fun W => rsnil W x.line x.j x.c x.m x.a x.p x.tail x.cyc x.found)
  by_cases hbo : bothOk c l.length
  · have HBo := fun W (f : Fr [] w W) => hid (both_ok (w := W) hbo.1 hbo.2.1 _ l (hv.kept0 f) hbo.2.2 hwf)
    clear hv hbo hl hwf
    obtain ⟨s0, hs0⟩ : ∃ s : HS, s = ⟨c, l, Acc.z⟩ := ⟨_, rfl⟩
    replace hs0 := hid hs0
    by_cases hnear : x.Near
    · have HX := fun {W : World} {h ab db : Nat} (H : HAt W h ab db s0) => rs_any H x hx hnear
      have HY := fun {W : World} {r rd cap : Nat} {ext : List Value} (H : RAt W r rd cap ext s0) => rrs_any H x hx hnear
      have HFa := hid (fun W => far_no x hnear W)
      obtain ⟨res, hres⟩ : ∃ r, r = rsM s0 x := ⟨_, rfl⟩
      rw [← hres] at HX HY
      clear hres hnear hx HN
      obtain ⟨⟨line2, j2, cq2, cm_2, a2, p2, found2, tail2, cyc2⟩, fl0, s2⟩ := res
      simp only [ColV.val] at HX HY
      have HAl := fun {W : World} {h ab db r rd cap : Nat} {ext : List Value} (H : HAt W h ab db s2) (R : RAt W r rd cap ext s2) => hid (by have := alike_any H R; simp only [decide_true, Bool.and_self] at this; exact this)
      obtain ⟨line, j, cq, cm_, a, p, found, tail, cyc⟩ := x
      unfold ColV.val
      obtain ⟨cc, cm, cr, cg⟩ := c
      go_enter Try.func13, Try.ntmps13
      have hX := Blk.new (w.alloc (.cells #[.int .i64 cc, .int .i64 cm, .int .i64 cr, .int .i64 cg] 23)) [.int .i64 line, .int .i64 j, .int .i64 cq, .int .i64 cm_, .int .u64 a, .int .u64 p, .bool found, .int .i64 tail, .int .i64 cyc] 80
      have hB := (Blk.new w [.int .i64 cc, .int .i64 cm, .int .i64 cr, .int .i64 cg] 23).alloc (.cells #[.int .i64 line, .int .i64 j, .int .i64 cq, .int .i64 cm_, .int .u64 a, .int .u64 p, .bool found, .int .i64 tail, .int .i64 cyc] 80)
      simp only [World.size_alloc] at hX
      have hFF := ((Fr.refl [] w).alloc (.cells #[.int .i64 cc, .int .i64 cm, .int .i64 cr, .int .i64 cg] 23)).alloc (.cells #[.int .i64 line, .int .i64 j, .int .i64 cq, .int .i64 cm_, .int .u64 a, .int .u64 p, .bool found, .int .i64 tail, .int .i64 cyc] 80)
      have kX := hX.cell
      have kB := hB.cell
      go_wp2_with (first | (go_at_call 49; refine (awake15_any _).mono ?_; rintro e w2 ⟨rfl, hF2⟩; (have hB := hB.kept hF2 (by simp)); (have kB := hB.cell); (have hX := hX.kept hF2 (by simp)); (have kX := hX.cell); (have hFF := hFF.trans hF2)))
      have lX0 := hX.lt
      have lB0 := hB.lt
      have nX0 : w.heap.size + 1 ≠ w2.heap.size := by omega
      have nB0 : w.heap.size ≠ w2.heap.size := by omega
      have hb := Blk.new w2 [.int .i64 1, .int .i64 0, .int .i64 cq, .int .i64 cm_, .int .u64 a, .int .u64 0, .bool found, .int .i64 tail, .int .i64 cyc] 80
      have hX := hX.alloc (.cells #[.int .i64 1, .int .i64 0, .int .i64 cq, .int .i64 cm_, .int .u64 a, .int .u64 0, .bool found, .int .i64 tail, .int .i64 cyc] 80)
      have hB := hB.alloc (.cells #[.int .i64 1, .int .i64 0, .int .i64 cq, .int .i64 cm_, .int .u64 a, .int .u64 0, .bool found, .int .i64 tail, .int .i64 cyc] 80)
      have hFF := hFF.alloc (.cells #[.int .i64 1, .int .i64 0, .int .i64 cq, .int .i64 cm_, .int .u64 a, .int .u64 0, .bool found, .int .i64 tail, .int .i64 cyc] 80)
      have hX := hX.drew
      have hB := hB.drew
      have hb := hb.drew
      have hFF := hFF.drew
      have kX := hX.cell
      have kB := hB.cell
      have kb := hb.cell
      go_region_held3 (fun w' => w'.cell? ⟨w.heap.size + 1, 0, none⟩ = some (.int .i64 line) ∧ w'.cell? ⟨w.heap.size + 1, 1, none⟩ = some (.int .i64 j) ∧ w'.cell? ⟨w.heap.size + 1, 2, none⟩ = some (.int .i64 cq) ∧ w'.cell? ⟨w.heap.size + 1, 3, none⟩ = some (.int .i64 cm_) ∧ w'.cell? ⟨w.heap.size + 1, 4, none⟩ = some (.int .u64 a) ∧ w'.cell? ⟨w.heap.size + 1, 5, none⟩ = some (.int .u64 p) ∧ w'.cell? ⟨w.heap.size + 1, 6, none⟩ = some (.bool found) ∧ w'.cell? ⟨w.heap.size + 1, 7, none⟩ = some (.int .i64 tail) ∧ w'.cell? ⟨w.heap.size + 1, 8, none⟩ = some (.int .i64 cyc) ∧ w'.cell? ⟨w2.heap.size, 0, none⟩ = some (.int .i64 1) ∧ w'.cell? ⟨w2.heap.size, 1, none⟩ = some (.int .i64 0) ∧ w'.cell? ⟨w2.heap.size, 2, none⟩ = some (.int .i64 cq) ∧ w'.cell? ⟨w2.heap.size, 3, none⟩ = some (.int .i64 cm_) ∧ w'.cell? ⟨w2.heap.size, 4, none⟩ = some (.int .u64 a) ∧ w'.cell? ⟨w2.heap.size, 5, none⟩ = some (.int .u64 0) ∧ w'.cell? ⟨w2.heap.size, 6, none⟩ = some (.bool found) ∧ w'.cell? ⟨w2.heap.size, 7, none⟩ = some (.int .i64 tail) ∧ w'.cell? ⟨w2.heap.size, 8, none⟩ = some (.int .i64 cyc)) (go_keep)
        (first | (go_at_call 50; go_must (refine (HS1.out _).mono ?_); go_must (rintro e w4 ⟨rfl, hF2⟩); go_must (have hB := hB.kept hF2 List.not_mem_nil); go_must (have kB := hB.cell); go_must (have hX := hX.kept hF2 List.not_mem_nil); go_must (have kX := hX.cell); go_must (have hFF := hFF.trans hF2); go_must (have hb := hb.kept hF2 List.not_mem_nil); go_must (have kb := hb.cell)) | (go_at_call 51; go_must (refine (HS2.out _).mono ?_); go_must (rintro e w4 ⟨rfl, hF2⟩); go_must (have hB := hB.kept hF2 List.not_mem_nil); go_must (have kB := hB.cell); go_must (have hX := hX.kept hF2 List.not_mem_nil); go_must (have kX := hX.cell); go_must (have hFF := hFF.trans hF2); go_must (have hb := hb.kept hF2 List.not_mem_nil); go_must (have kb := hb.cell)) | (go_at_call 52; go_must (refine (HBg.out _).mono ?_); go_must (rintro e w4 ⟨rfl, hF2⟩); go_must (have hB := hB.kept hF2 List.not_mem_nil); go_must (have kB := hB.cell); go_must (have hX := hX.kept hF2 List.not_mem_nil); go_must (have kX := hX.cell); go_must (have hFF := hFF.trans hF2); go_must (have hb := hb.kept hF2 List.not_mem_nil); go_must (have kb := hb.cell)))
      clear HS1 HS2 HBg hb kb lX0 lB0
      go_wp2_with (first | (go_at_call 28; refine (HBo _ hFF).out.mono ?_; rintro e w5 ⟨⟨h, ab, db, r, rd, cap, ext, rfl, HH, HR, q1, q2, q3, q4, q5, d1, d2, d3, d4, d5, d6⟩, hF2⟩; rw [← hs0.out] at HH HR; (have hXl := hX.lt); (have hX := hX.kept hF2 (by simp)); (have nX : w.heap.size + 1 ∉ [h, db] := by simp; omega); (have nR : r ∉ [h, db] := by simp; omega); (have nRd : rd ∉ [h, db] := by simp; omega); (have nH : h ∉ [r, rd] := by simp; omega); (have nAb : ab ∉ [r, rd] := by simp; omega); (have nDb : db ∉ [r, rd] := by simp; omega); (have sF := hFF.size); (have hSS := fun i (m : i ∈ [h, db]) (l : i < w.heap.size) => (show i ∈ ([] : List Nat) by simp at m; omega)); (have hST := fun i (m : i ∈ [r, rd]) (l : i < w.heap.size) => (show i ∈ ([] : List Nat) by simp at m; omega)); (have kX := hX.cell); (have hFF := hFF.trans hF2); clear d1 d2 d3 d4 d5 d6 q1 q2 q3 q4 q5 sF) | (go_at_call 42; refine (HFa.out _).mono ?_; rintro e w5 ⟨rfl, hF2⟩; (have HH := HH.kept0 hF2); (have HR := HR.kept0 hF2); (have hX := hX.kept hF2 (by simp)); (have kX := hX.cell); (have hFF := hFF.trans hF2)) | (go_at_call 53; refine (HX HH).mono ?_; rintro e w6 ⟨rfl, HH2, hF2⟩; (have HR := HR.kept hF2 nR nRd); (have hX := hX.kept hF2 nX); (have kX := (hX.alloc (.cells #[.int .i64 line2, .int .i64 j2, .int .i64 cq2, .int .i64 cm_2, .int .u64 a2, .int .u64 p2, .bool found2, .int .i64 tail2, .int .i64 cyc2] 80)).cell); (have hFF := hFF.trans_new hF2 hSS)) | (go_at_call 54; refine (HY (HR.alloc _)).mono ?_; rintro e w7 ⟨rfl, HR2, hF2⟩; (have HH2 := (HH2.alloc _).kept hF2 nH nAb nDb); (have nA : w6.heap.size ∉ [r, rd] := by have := HR.blk.lt; have := HR.ar.dat.lt; simp; omega); (have hA := (Blk.new w6 [.int .i64 line2, .int .i64 j2, .int .i64 cq2, .int .i64 cm_2, .int .u64 a2, .int .u64 p2, .bool found2, .int .i64 tail2, .int .i64 cyc2] 80).kept hF2 nA); (have kA := (hA.alloc (.cells #[.int .i64 line2, .int .i64 j2, .int .i64 cq2, .int .i64 cm_2, .int .u64 a2, .int .u64 p2, .bool found2, .int .i64 tail2, .int .i64 cyc2] 80)).cell); (have hFF := (hFF.alloc _).trans_new hF2 hST)) | (go_at_call 31; refine (HAl (HH2.alloc _) (HR2.alloc _)).out.mono ?_; rintro e w8 ⟨rfl, hF2⟩; (have hFF := (hFF.alloc _).trans hF2)))
      go_ret
      exact ⟨rfl, hFF⟩
    · have HFa := hid (fun W => far_yes x hnear W)
      clear hx hnear
      obtain ⟨line, j, cq, cm_, a, p, found, tail, cyc⟩ := x
      unfold ColV.val
      obtain ⟨cc, cm, cr, cg⟩ := c
      go_enter Try.func13, Try.ntmps13
      have hX := Blk.new (w.alloc (.cells #[.int .i64 cc, .int .i64 cm, .int .i64 cr, .int .i64 cg] 23)) [.int .i64 line, .int .i64 j, .int .i64 cq, .int .i64 cm_, .int .u64 a, .int .u64 p, .bool found, .int .i64 tail, .int .i64 cyc] 80
      have hB := (Blk.new w [.int .i64 cc, .int .i64 cm, .int .i64 cr, .int .i64 cg] 23).alloc (.cells #[.int .i64 line, .int .i64 j, .int .i64 cq, .int .i64 cm_, .int .u64 a, .int .u64 p, .bool found, .int .i64 tail, .int .i64 cyc] 80)
      simp only [World.size_alloc] at hX
      have hFF := ((Fr.refl [] w).alloc (.cells #[.int .i64 cc, .int .i64 cm, .int .i64 cr, .int .i64 cg] 23)).alloc (.cells #[.int .i64 line, .int .i64 j, .int .i64 cq, .int .i64 cm_, .int .u64 a, .int .u64 p, .bool found, .int .i64 tail, .int .i64 cyc] 80)
      have kX := hX.cell
      have kB := hB.cell
      go_wp2_with (first | (go_at_call 49; refine (awake15_any _).mono ?_; rintro e w2 ⟨rfl, hF2⟩; (have hB := hB.kept hF2 (by simp)); (have kB := hB.cell); (have hX := hX.kept hF2 (by simp)); (have kX := hX.cell); (have hFF := hFF.trans hF2)))
      have lX0 := hX.lt
      have lB0 := hB.lt
      have nX0 : w.heap.size + 1 ≠ w2.heap.size := by omega
      have nB0 : w.heap.size ≠ w2.heap.size := by omega
      have hb := Blk.new w2 [.int .i64 1, .int .i64 0, .int .i64 cq, .int .i64 cm_, .int .u64 a, .int .u64 0, .bool found, .int .i64 tail, .int .i64 cyc] 80
      have hX := hX.alloc (.cells #[.int .i64 1, .int .i64 0, .int .i64 cq, .int .i64 cm_, .int .u64 a, .int .u64 0, .bool found, .int .i64 tail, .int .i64 cyc] 80)
      have hB := hB.alloc (.cells #[.int .i64 1, .int .i64 0, .int .i64 cq, .int .i64 cm_, .int .u64 a, .int .u64 0, .bool found, .int .i64 tail, .int .i64 cyc] 80)
      have hFF := hFF.alloc (.cells #[.int .i64 1, .int .i64 0, .int .i64 cq, .int .i64 cm_, .int .u64 a, .int .u64 0, .bool found, .int .i64 tail, .int .i64 cyc] 80)
      have hX := hX.drew
      have hB := hB.drew
      have hb := hb.drew
      have hFF := hFF.drew
      have kX := hX.cell
      have kB := hB.cell
      have kb := hb.cell
      go_region_held3 (fun w' => w'.cell? ⟨w.heap.size + 1, 0, none⟩ = some (.int .i64 line) ∧ w'.cell? ⟨w.heap.size + 1, 1, none⟩ = some (.int .i64 j) ∧ w'.cell? ⟨w.heap.size + 1, 2, none⟩ = some (.int .i64 cq) ∧ w'.cell? ⟨w.heap.size + 1, 3, none⟩ = some (.int .i64 cm_) ∧ w'.cell? ⟨w.heap.size + 1, 4, none⟩ = some (.int .u64 a) ∧ w'.cell? ⟨w.heap.size + 1, 5, none⟩ = some (.int .u64 p) ∧ w'.cell? ⟨w.heap.size + 1, 6, none⟩ = some (.bool found) ∧ w'.cell? ⟨w.heap.size + 1, 7, none⟩ = some (.int .i64 tail) ∧ w'.cell? ⟨w.heap.size + 1, 8, none⟩ = some (.int .i64 cyc) ∧ w'.cell? ⟨w2.heap.size, 0, none⟩ = some (.int .i64 1) ∧ w'.cell? ⟨w2.heap.size, 1, none⟩ = some (.int .i64 0) ∧ w'.cell? ⟨w2.heap.size, 2, none⟩ = some (.int .i64 cq) ∧ w'.cell? ⟨w2.heap.size, 3, none⟩ = some (.int .i64 cm_) ∧ w'.cell? ⟨w2.heap.size, 4, none⟩ = some (.int .u64 a) ∧ w'.cell? ⟨w2.heap.size, 5, none⟩ = some (.int .u64 0) ∧ w'.cell? ⟨w2.heap.size, 6, none⟩ = some (.bool found) ∧ w'.cell? ⟨w2.heap.size, 7, none⟩ = some (.int .i64 tail) ∧ w'.cell? ⟨w2.heap.size, 8, none⟩ = some (.int .i64 cyc)) (go_keep)
        (first | (go_at_call 50; go_must (refine (HS1.out _).mono ?_); go_must (rintro e w4 ⟨rfl, hF2⟩); go_must (have hB := hB.kept hF2 List.not_mem_nil); go_must (have kB := hB.cell); go_must (have hX := hX.kept hF2 List.not_mem_nil); go_must (have kX := hX.cell); go_must (have hFF := hFF.trans hF2); go_must (have hb := hb.kept hF2 List.not_mem_nil); go_must (have kb := hb.cell)) | (go_at_call 51; go_must (refine (HS2.out _).mono ?_); go_must (rintro e w4 ⟨rfl, hF2⟩); go_must (have hB := hB.kept hF2 List.not_mem_nil); go_must (have kB := hB.cell); go_must (have hX := hX.kept hF2 List.not_mem_nil); go_must (have kX := hX.cell); go_must (have hFF := hFF.trans hF2); go_must (have hb := hb.kept hF2 List.not_mem_nil); go_must (have kb := hb.cell)) | (go_at_call 52; go_must (refine (HBg.out _).mono ?_); go_must (rintro e w4 ⟨rfl, hF2⟩); go_must (have hB := hB.kept hF2 List.not_mem_nil); go_must (have kB := hB.cell); go_must (have hX := hX.kept hF2 List.not_mem_nil); go_must (have kX := hX.cell); go_must (have hFF := hFF.trans hF2); go_must (have hb := hb.kept hF2 List.not_mem_nil); go_must (have kb := hb.cell)))
      clear HS1 HS2 HBg hb kb lX0 lB0
      go_wp2_with (first | (go_at_call 28; refine (HBo _ hFF).out.mono ?_; rintro e w5 ⟨⟨h, ab, db, r, rd, cap, ext, rfl, HH, HR, q1, q2, q3, q4, q5, d1, d2, d3, d4, d5, d6⟩, hF2⟩; rw [← hs0.out] at HH HR; (have hXl := hX.lt); (have hX := hX.kept hF2 (by simp)); (have nX : w.heap.size + 1 ∉ [h, db] := by simp; omega); (have nR : r ∉ [h, db] := by simp; omega); (have nRd : rd ∉ [h, db] := by simp; omega); (have nH : h ∉ [r, rd] := by simp; omega); (have nAb : ab ∉ [r, rd] := by simp; omega); (have nDb : db ∉ [r, rd] := by simp; omega); (have sF := hFF.size); (have hSS := fun i (m : i ∈ [h, db]) (l : i < w.heap.size) => (show i ∈ ([] : List Nat) by simp at m; omega)); (have hST := fun i (m : i ∈ [r, rd]) (l : i < w.heap.size) => (show i ∈ ([] : List Nat) by simp at m; omega)); (have kX := hX.cell); (have hFF := hFF.trans hF2); clear d1 d2 d3 d4 d5 d6 q1 q2 q3 q4 q5 sF) | (go_at_call 42; refine (HFa.out _).mono ?_; rintro e w5 ⟨rfl, hF2⟩; (have HH := HH.kept0 hF2); (have HR := HR.kept0 hF2); (have hX := hX.kept hF2 (by simp)); (have kX := hX.cell); (have hFF := hFF.trans hF2)) | (go_at_call 53; refine (HN.out _).mono ?_; rintro e w6 ⟨rfl, hF2⟩; (have hFF := hFF.trans hF2)))
      go_ret
      exact ⟨rfl, hFF.alloc _⟩
  · have HBo := fun W (f : Fr [] w W) => hid (both_no (w := W) c _ l (hv.kept0 f) hbo hl)
    clear hv hbo hl hwf hx
    obtain ⟨line, j, cq, cm_, a, p, found, tail, cyc⟩ := x
    unfold ColV.val
    obtain ⟨cc, cm, cr, cg⟩ := c
    go_enter Try.func13, Try.ntmps13
    have hX := Blk.new (w.alloc (.cells #[.int .i64 cc, .int .i64 cm, .int .i64 cr, .int .i64 cg] 23)) [.int .i64 line, .int .i64 j, .int .i64 cq, .int .i64 cm_, .int .u64 a, .int .u64 p, .bool found, .int .i64 tail, .int .i64 cyc] 80
    have hB := (Blk.new w [.int .i64 cc, .int .i64 cm, .int .i64 cr, .int .i64 cg] 23).alloc (.cells #[.int .i64 line, .int .i64 j, .int .i64 cq, .int .i64 cm_, .int .u64 a, .int .u64 p, .bool found, .int .i64 tail, .int .i64 cyc] 80)
    simp only [World.size_alloc] at hX
    have hFF := ((Fr.refl [] w).alloc (.cells #[.int .i64 cc, .int .i64 cm, .int .i64 cr, .int .i64 cg] 23)).alloc (.cells #[.int .i64 line, .int .i64 j, .int .i64 cq, .int .i64 cm_, .int .u64 a, .int .u64 p, .bool found, .int .i64 tail, .int .i64 cyc] 80)
    have kX := hX.cell
    have kB := hB.cell
    go_wp2_with (first | (go_at_call 49; refine (awake15_any _).mono ?_; rintro e w2 ⟨rfl, hF2⟩; (have hB := hB.kept hF2 (by simp)); (have kB := hB.cell); (have hX := hX.kept hF2 (by simp)); (have kX := hX.cell); (have hFF := hFF.trans hF2)))
    have lX0 := hX.lt
    have lB0 := hB.lt
    have nX0 : w.heap.size + 1 ≠ w2.heap.size := by omega
    have nB0 : w.heap.size ≠ w2.heap.size := by omega
    have hb := Blk.new w2 [.int .i64 1, .int .i64 0, .int .i64 cq, .int .i64 cm_, .int .u64 a, .int .u64 0, .bool found, .int .i64 tail, .int .i64 cyc] 80
    have hX := hX.alloc (.cells #[.int .i64 1, .int .i64 0, .int .i64 cq, .int .i64 cm_, .int .u64 a, .int .u64 0, .bool found, .int .i64 tail, .int .i64 cyc] 80)
    have hB := hB.alloc (.cells #[.int .i64 1, .int .i64 0, .int .i64 cq, .int .i64 cm_, .int .u64 a, .int .u64 0, .bool found, .int .i64 tail, .int .i64 cyc] 80)
    have hFF := hFF.alloc (.cells #[.int .i64 1, .int .i64 0, .int .i64 cq, .int .i64 cm_, .int .u64 a, .int .u64 0, .bool found, .int .i64 tail, .int .i64 cyc] 80)
    have hX := hX.drew
    have hB := hB.drew
    have hb := hb.drew
    have hFF := hFF.drew
    have kX := hX.cell
    have kB := hB.cell
    have kb := hb.cell
    go_region_held3 (fun w' => w'.cell? ⟨w.heap.size + 1, 0, none⟩ = some (.int .i64 line) ∧ w'.cell? ⟨w.heap.size + 1, 1, none⟩ = some (.int .i64 j) ∧ w'.cell? ⟨w.heap.size + 1, 2, none⟩ = some (.int .i64 cq) ∧ w'.cell? ⟨w.heap.size + 1, 3, none⟩ = some (.int .i64 cm_) ∧ w'.cell? ⟨w.heap.size + 1, 4, none⟩ = some (.int .u64 a) ∧ w'.cell? ⟨w.heap.size + 1, 5, none⟩ = some (.int .u64 p) ∧ w'.cell? ⟨w.heap.size + 1, 6, none⟩ = some (.bool found) ∧ w'.cell? ⟨w.heap.size + 1, 7, none⟩ = some (.int .i64 tail) ∧ w'.cell? ⟨w.heap.size + 1, 8, none⟩ = some (.int .i64 cyc) ∧ w'.cell? ⟨w2.heap.size, 0, none⟩ = some (.int .i64 1) ∧ w'.cell? ⟨w2.heap.size, 1, none⟩ = some (.int .i64 0) ∧ w'.cell? ⟨w2.heap.size, 2, none⟩ = some (.int .i64 cq) ∧ w'.cell? ⟨w2.heap.size, 3, none⟩ = some (.int .i64 cm_) ∧ w'.cell? ⟨w2.heap.size, 4, none⟩ = some (.int .u64 a) ∧ w'.cell? ⟨w2.heap.size, 5, none⟩ = some (.int .u64 0) ∧ w'.cell? ⟨w2.heap.size, 6, none⟩ = some (.bool found) ∧ w'.cell? ⟨w2.heap.size, 7, none⟩ = some (.int .i64 tail) ∧ w'.cell? ⟨w2.heap.size, 8, none⟩ = some (.int .i64 cyc)) (go_keep)
      (first | (go_at_call 50; go_must (refine (HS1.out _).mono ?_); go_must (rintro e w4 ⟨rfl, hF2⟩); go_must (have hB := hB.kept hF2 List.not_mem_nil); go_must (have kB := hB.cell); go_must (have hX := hX.kept hF2 List.not_mem_nil); go_must (have kX := hX.cell); go_must (have hFF := hFF.trans hF2); go_must (have hb := hb.kept hF2 List.not_mem_nil); go_must (have kb := hb.cell)) | (go_at_call 51; go_must (refine (HS2.out _).mono ?_); go_must (rintro e w4 ⟨rfl, hF2⟩); go_must (have hB := hB.kept hF2 List.not_mem_nil); go_must (have kB := hB.cell); go_must (have hX := hX.kept hF2 List.not_mem_nil); go_must (have kX := hX.cell); go_must (have hFF := hFF.trans hF2); go_must (have hb := hb.kept hF2 List.not_mem_nil); go_must (have kb := hb.cell)) | (go_at_call 52; go_must (refine (HBg.out _).mono ?_); go_must (rintro e w4 ⟨rfl, hF2⟩); go_must (have hB := hB.kept hF2 List.not_mem_nil); go_must (have kB := hB.cell); go_must (have hX := hX.kept hF2 List.not_mem_nil); go_must (have kX := hX.cell); go_must (have hFF := hFF.trans hF2); go_must (have hb := hb.kept hF2 List.not_mem_nil); go_must (have kb := hb.cell)))
    clear HS1 HS2 HBg hb kb lX0 lB0
    go_wp2_with (first | (go_at_call 28; refine (HBo _ hFF).out.mono ?_; rintro e w5 ⟨rfl, hF2⟩; (have hB := hB.kept hF2 (by simp)); (have kB := hB.cell); (have hX := hX.kept hF2 (by simp)); (have kX := hX.cell); (have hFF := hFF.trans hF2)) | (go_at_call 53; refine (HN.out _).mono ?_; rintro e w6 ⟨rfl, hF2⟩; (have hFF := hFF.trans hF2)))
    go_ret
    exact ⟨rfl, hFF.alloc _⟩

end Go.Proofs.Ytinafadacgloaaa
