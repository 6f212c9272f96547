/- mudlarklaw16.PassSteps: the walk. -/
import Derived.Test.YteggckdgjecfmaaPaAny
import Derived.Test.YteggckdgjecfmaaAwake16
import Derived.Test.YteggckdgjecfmaaLaw10
namespace Go.Proofs.Yteggckdgjecfmaa
open Go.RowKit
set_option linter.unusedVariables false
set_option linter.unusedSimpArgs false

set_option maxRecDepth 100000 in
set_option maxHeartbeats 4000000 in
theorem passSteps_any (c : Cfg) (v : Value) (l : List Int) (x : ColV) (w : World) (hx : x.Wf) (hv : RdS w v l.length (u64s l)) (hl : l.length ≤ 35184372088832) (hwf : ∀ y, y ∈ l → 0 ≤ y ∧ y < 18446744073709551616) :
    Calls Try.prog 18 #[c.val, v, x.val] w fun e w' => e = .returned (.bool true) ∧ Fr [] w w' := by
  obtain ⟨ua, uc, rfl, hu⟩ := hv.elim
  clear hu

  have HN := hid (fun W => panil W x.line x.j x.c x.m x.a x.p x.tail x.cyc x.found)
  by_cases hbo : bothOk c l.length
  · have HBo := fun W (f : Fr [] w W) => hid (both_ok (w := W) hbo.1 hbo.2.1 _ l (hv.kept0 f) hbo.2.2 hwf)
    clear hv hbo hl hwf
    obtain ⟨s0, hs0⟩ : ∃ s : HS, s = ⟨c, l, Acc.z⟩ := ⟨_, rfl⟩
    replace hs0 := hid hs0
    by_cases hnear : x.Near
    · have HX := fun {W : World} {h ab db : Nat} (H : HAt W h ab db s0) => pa_any H x hx hnear
      have HY := fun {W : World} {r rd cap : Nat} {ext : List Value} (H : RAt W r rd cap ext s0) => rpa_any H x hx hnear
      have HFa := hid (fun W => far_no x hnear W)
      obtain ⟨res, hres⟩ : ∃ r, r = passM s0 x := ⟨_, rfl⟩
      rw [← hres] at HX HY
      clear hres hnear hx HN
      obtain ⟨⟨line2, j2, cq2, cm_2, a2, p2, found2, tail2, cyc2⟩, fl0, s2⟩ := res
      simp only [ColV.val] at HX HY
      have HAl := fun {W : World} {h ab db r rd cap : Nat} {ext : List Value} (H : HAt W h ab db s2) (R : RAt W r rd cap ext s2) => hid (by have := alike_any H R; simp only [decide_true, Bool.and_self] at this; exact this)
      obtain ⟨line, j, cq, cm_, a, p, found, tail, cyc⟩ := x
      unfold ColV.val
      obtain ⟨cc, cm, cr, cg⟩ := c
      go_enter Try.func18, Try.ntmps18
      have hX := Blk.new (w.alloc (.cells #[.int .i64 cc, .int .i64 cm, .int .i64 cr, .int .i64 cg] 45)) [.int .i64 line, .int .i64 j, .int .i64 cq, .int .i64 cm_, .int .u64 a, .int .u64 p, .bool found, .int .i64 tail, .int .i64 cyc] 86
      have hB := (Blk.new w [.int .i64 cc, .int .i64 cm, .int .i64 cr, .int .i64 cg] 45).alloc (.cells #[.int .i64 line, .int .i64 j, .int .i64 cq, .int .i64 cm_, .int .u64 a, .int .u64 p, .bool found, .int .i64 tail, .int .i64 cyc] 86)
      simp only [World.size_alloc] at hX
      have hFF := ((Fr.refl [] w).alloc (.cells #[.int .i64 cc, .int .i64 cm, .int .i64 cr, .int .i64 cg] 45)).alloc (.cells #[.int .i64 line, .int .i64 j, .int .i64 cq, .int .i64 cm_, .int .u64 a, .int .u64 p, .bool found, .int .i64 tail, .int .i64 cyc] 86)
      have kX := hX.cell
      have kB := hB.cell
      go_wp2_with (first | (go_at_call 77; refine (awake16_any _).mono ?_; rintro e w2 ⟨rfl, hF2⟩; (have hB := hB.kept hF2 (by simp)); (have kB := hB.cell); (have hX := hX.kept hF2 (by simp)); (have kX := hX.cell); (have hFF := hFF.trans hF2)) | (go_at_call 62; refine (HBo _ hFF).out.mono ?_; rintro e w5 ⟨⟨h, ab, db, r, rd, cap, ext, rfl, HH, HR, q1, q2, q3, q4, q5, d1, d2, d3, d4, d5, d6⟩, hF2⟩; rw [← hs0.out] at HH HR; (have hXl := hX.lt); (have hX := hX.kept hF2 (by simp)); (have nX : w.heap.size + 1 ∉ [h, db] := by simp; omega); (have nR : r ∉ [h, db] := by simp; omega); (have nRd : rd ∉ [h, db] := by simp; omega); (have nH : h ∉ [r, rd] := by simp; omega); (have nAb : ab ∉ [r, rd] := by simp; omega); (have nDb : db ∉ [r, rd] := by simp; omega); (have sF := hFF.size); (have hSS := fun i (m : i ∈ [h, db]) (l : i < w.heap.size) => (show i ∈ ([] : List Nat) by simp at m; omega)); (have hST := fun i (m : i ∈ [r, rd]) (l : i < w.heap.size) => (show i ∈ ([] : List Nat) by simp at m; omega)); (have kX := hX.cell); (have hFF := hFF.trans hF2); clear d1 d2 d3 d4 d5 d6 q1 q2 q3 q4 q5 sF) | (go_at_call 63; refine (HFa.out _).mono ?_; rintro e w5 ⟨rfl, hF2⟩; (have HH := HH.kept0 hF2); (have HR := HR.kept0 hF2); (have hX := hX.kept hF2 (by simp)); (have kX := hX.cell); (have hFF := hFF.trans hF2)) | (go_at_call 78; refine (HX HH).mono ?_; rintro e w6 ⟨rfl, HH2, hF2⟩; (have HR := HR.kept hF2 nR nRd); (have hX := hX.kept hF2 nX); (have kX := (hX.alloc (.cells #[.int .i64 line2, .int .i64 j2, .int .i64 cq2, .int .i64 cm_2, .int .u64 a2, .int .u64 p2, .bool found2, .int .i64 tail2, .int .i64 cyc2] 86)).cell); (have hFF := hFF.trans_new hF2 hSS)) | (go_at_call 79; refine (HY (HR.alloc _)).mono ?_; rintro e w7 ⟨rfl, HR2, hF2⟩; (have HH2 := (HH2.alloc _).kept hF2 nH nAb nDb); (have nA : w6.heap.size ∉ [r, rd] := by have := HR.blk.lt; have := HR.ar.dat.lt; simp; omega); (have hA := (Blk.new w6 [.int .i64 line2, .int .i64 j2, .int .i64 cq2, .int .i64 cm_2, .int .u64 a2, .int .u64 p2, .bool found2, .int .i64 tail2, .int .i64 cyc2] 86).kept hF2 nA); (have kA := (hA.alloc (.cells #[.int .i64 line2, .int .i64 j2, .int .i64 cq2, .int .i64 cm_2, .int .u64 a2, .int .u64 p2, .bool found2, .int .i64 tail2, .int .i64 cyc2] 86)).cell); (have hFF := (hFF.alloc _).trans_new hF2 hST)) | (go_at_call 66; refine (HAl (HH2.alloc _) (HR2.alloc _)).out.mono ?_; rintro e w8 ⟨rfl, hF2⟩; (have hFF := (hFF.alloc _).trans hF2)))
      go_ret
      exact ⟨rfl, hFF⟩
    · have HFa := hid (fun W => far_yes x hnear W)
      clear hx hnear
      obtain ⟨line, j, cq, cm_, a, p, found, tail, cyc⟩ := x
      unfold ColV.val
      obtain ⟨cc, cm, cr, cg⟩ := c
      go_enter Try.func18, Try.ntmps18
      have hX := Blk.new (w.alloc (.cells #[.int .i64 cc, .int .i64 cm, .int .i64 cr, .int .i64 cg] 45)) [.int .i64 line, .int .i64 j, .int .i64 cq, .int .i64 cm_, .int .u64 a, .int .u64 p, .bool found, .int .i64 tail, .int .i64 cyc] 86
      have hB := (Blk.new w [.int .i64 cc, .int .i64 cm, .int .i64 cr, .int .i64 cg] 45).alloc (.cells #[.int .i64 line, .int .i64 j, .int .i64 cq, .int .i64 cm_, .int .u64 a, .int .u64 p, .bool found, .int .i64 tail, .int .i64 cyc] 86)
      simp only [World.size_alloc] at hX
      have hFF := ((Fr.refl [] w).alloc (.cells #[.int .i64 cc, .int .i64 cm, .int .i64 cr, .int .i64 cg] 45)).alloc (.cells #[.int .i64 line, .int .i64 j, .int .i64 cq, .int .i64 cm_, .int .u64 a, .int .u64 p, .bool found, .int .i64 tail, .int .i64 cyc] 86)
      have kX := hX.cell
      have kB := hB.cell
      go_wp2_with (first | (go_at_call 77; refine (awake16_any _).mono ?_; rintro e w2 ⟨rfl, hF2⟩; (have hB := hB.kept hF2 (by simp)); (have kB := hB.cell); (have hX := hX.kept hF2 (by simp)); (have kX := hX.cell); (have hFF := hFF.trans hF2)) | (go_at_call 62; refine (HBo _ hFF).out.mono ?_; rintro e w5 ⟨⟨h, ab, db, r, rd, cap, ext, rfl, HH, HR, q1, q2, q3, q4, q5, d1, d2, d3, d4, d5, d6⟩, hF2⟩; rw [← hs0.out] at HH HR; (have hXl := hX.lt); (have hX := hX.kept hF2 (by simp)); (have nX : w.heap.size + 1 ∉ [h, db] := by simp; omega); (have nR : r ∉ [h, db] := by simp; omega); (have nRd : rd ∉ [h, db] := by simp; omega); (have nH : h ∉ [r, rd] := by simp; omega); (have nAb : ab ∉ [r, rd] := by simp; omega); (have nDb : db ∉ [r, rd] := by simp; omega); (have sF := hFF.size); (have hSS := fun i (m : i ∈ [h, db]) (l : i < w.heap.size) => (show i ∈ ([] : List Nat) by simp at m; omega)); (have hST := fun i (m : i ∈ [r, rd]) (l : i < w.heap.size) => (show i ∈ ([] : List Nat) by simp at m; omega)); (have kX := hX.cell); (have hFF := hFF.trans hF2); clear d1 d2 d3 d4 d5 d6 q1 q2 q3 q4 q5 sF) | (go_at_call 63; refine (HFa.out _).mono ?_; rintro e w5 ⟨rfl, hF2⟩; (have HH := HH.kept0 hF2); (have HR := HR.kept0 hF2); (have hX := hX.kept hF2 (by simp)); (have kX := hX.cell); (have hFF := hFF.trans hF2)) | (go_at_call 78; refine (HN.out _).mono ?_; rintro e w6 ⟨rfl, hF2⟩; (have hFF := hFF.trans hF2)))
      go_ret
      exact ⟨rfl, hFF.alloc _⟩
  · have HBo := fun W (f : Fr [] w W) => hid (both_no (w := W) c _ l (hv.kept0 f) hbo hl)
    clear hv hbo hl hwf hx
    obtain ⟨line, j, cq, cm_, a, p, found, tail, cyc⟩ := x
    unfold ColV.val
    obtain ⟨cc, cm, cr, cg⟩ := c
    go_enter Try.func18, Try.ntmps18
    have hX := Blk.new (w.alloc (.cells #[.int .i64 cc, .int .i64 cm, .int .i64 cr, .int .i64 cg] 45)) [.int .i64 line, .int .i64 j, .int .i64 cq, .int .i64 cm_, .int .u64 a, .int .u64 p, .bool found, .int .i64 tail, .int .i64 cyc] 86
    have hB := (Blk.new w [.int .i64 cc, .int .i64 cm, .int .i64 cr, .int .i64 cg] 45).alloc (.cells #[.int .i64 line, .int .i64 j, .int .i64 cq, .int .i64 cm_, .int .u64 a, .int .u64 p, .bool found, .int .i64 tail, .int .i64 cyc] 86)
    simp only [World.size_alloc] at hX
    have hFF := ((Fr.refl [] w).alloc (.cells #[.int .i64 cc, .int .i64 cm, .int .i64 cr, .int .i64 cg] 45)).alloc (.cells #[.int .i64 line, .int .i64 j, .int .i64 cq, .int .i64 cm_, .int .u64 a, .int .u64 p, .bool found, .int .i64 tail, .int .i64 cyc] 86)
    have kX := hX.cell
    have kB := hB.cell
    go_wp2_with (first | (go_at_call 77; refine (awake16_any _).mono ?_; rintro e w2 ⟨rfl, hF2⟩; (have hB := hB.kept hF2 (by simp)); (have kB := hB.cell); (have hX := hX.kept hF2 (by simp)); (have kX := hX.cell); (have hFF := hFF.trans hF2)) | (go_at_call 62; refine (HBo _ hFF).out.mono ?_; rintro e w5 ⟨rfl, hF2⟩; (have hB := hB.kept hF2 (by simp)); (have kB := hB.cell); (have hX := hX.kept hF2 (by simp)); (have kX := hX.cell); (have hFF := hFF.trans hF2)) | (go_at_call 78; refine (HN.out _).mono ?_; rintro e w6 ⟨rfl, hF2⟩; (have hFF := hFF.trans hF2)))
    go_ret
    exact ⟨rfl, hFF.alloc _⟩

end Go.Proofs.Yteggckdgjecfmaa
