/- mudlarklaw16.PassGreys: the walk. -/
import Derived.Test.YteggckdgjecfmaaAwake16
import Derived.Test.YteggckdgjecfmaaIntsRef
import Derived.Test.YteggckdgjecfmaaLaw10
namespace Go.Proofs.Yteggckdgjecfmaa
open Go.RowKit
set_option linter.unusedVariables false
set_option linter.unusedSimpArgs false

theorem greysTo_bd (c : Cfg) (hR : c.Right) (l : List Int) : (greysTo c l c.cells.toNat).length ≤ 35184372088832 := by
  have := greysTo_le c l c.cells.toNat
  have := hR.c1
  omega

set_option maxRecDepth 100000 in
set_option maxHeartbeats 4000000 in
theorem passGreys_any (c : Cfg) (v : Value) (l : List Int) (w : World) (hv : RdS w v l.length (u64s l)) (hl : l.length ≤ 35184372088832) :
    Calls Try.prog 19 #[c.val, v] w fun e w' => e = .returned (.bool true) ∧ Fr [] w w' := by
  obtain ⟨ua, uc, rfl, hu⟩ := hv.elim
  clear hu
  obtain ⟨out, hlen, HPo, HRe⟩ : ∃ out, out.length ≤ 35184372088832 ∧ (∀ W, Fr [] w W → Calls Try.prog 80 #[c.val, .slice ua l.length uc] W fun e w' => IntsRes out e w' ∧ Fr [] W w') ∧ (∀ W, Fr [] w W → Calls Try.prog 81 #[c.val, .slice ua l.length uc] W fun e w' => IntsRes out e w' ∧ Fr [] W w') := by
    by_cases hok : c.Right ∧ (l.length : Int) = c.words
    · exact ⟨greysTo c l c.cells.toNat, greysTo_bd c hok.1 l, fun W f => greys_any hok.1 _ l (hv.kept0 f) hok.2, fun W f => rgreys_any hok.1 _ l (hv.kept0 f) hok.2⟩
    · exact ⟨[], by simp, fun W f => greys_bad c ua l.length uc hok hl, fun W f => rgreys_bad c ua l.length uc hok hl⟩
  replace HPo := hid HPo
  replace HRe := hid HRe
  have HG := hid (fun W => great_any c W)
  obtain ⟨g, hg⟩ : ∃ g, g = c.great := ⟨_, rfl⟩
  rw [← hg] at HG
  have HLE := hid hlen
  clear hv hg hlen
  obtain ⟨cc, cm, cr, cg⟩ := c
  cases g
  · by_cases h4 : (400 : Int) < (l.length : Int)
    · go_enter Try.func19, Try.ntmps19
      have hB := Blk.new w [.int .i64 cc, .int .i64 cm, .int .i64 cr, .int .i64 cg] 45
      have kB := hB.cell
      have hFF := (Fr.refl [] w).alloc (.cells #[.int .i64 cc, .int .i64 cm, .int .i64 cr, .int .i64 cg] 45)
      go_wp2_with (first | (go_at_call 77; refine (awake16_any _).mono ?_; rintro e w2 ⟨rfl, hF2⟩; (replace hB := hB.kept hF2 (by simp)); (replace kB := hB.cell); (replace hFF := hFF.trans hF2)) | (go_at_call 53; refine (HG.out _).mono ?_; rintro e w2 ⟨rfl, hF2⟩; (replace hB := hB.kept hF2 (by simp)); (replace kB := hB.cell); (replace hFF := hFF.trans hF2)))
      go_ret
      exact ⟨rfl, hFF⟩
    · go_enter Try.func19, Try.ntmps19
      have hB := Blk.new w [.int .i64 cc, .int .i64 cm, .int .i64 cr, .int .i64 cg] 45
      have kB := hB.cell
      have hFF := (Fr.refl [] w).alloc (.cells #[.int .i64 cc, .int .i64 cm, .int .i64 cr, .int .i64 cg] 45)
      go_wp2_with (first | (go_at_call 77; refine (awake16_any _).mono ?_; rintro e w2 ⟨rfl, hF2⟩; (replace hB := hB.kept hF2 (by simp)); (replace kB := hB.cell); (replace hFF := hFF.trans hF2)) | (go_at_call 53; refine (HG.out _).mono ?_; rintro e w3 ⟨rfl, hF2⟩; (replace hB := hB.kept hF2 (by simp)); (replace kB := hB.cell); (replace hFF := hFF.trans hF2)))
      replace hB := hB.drew
      replace kB := hB.cell
      replace hFF := hFF.drew
      go_region_held3 (fun w' => w'.cell? ⟨w.heap.size, 0, none⟩ = some (.int .i64 cc) ∧ w'.cell? ⟨w.heap.size, 1, none⟩ = some (.int .i64 cm) ∧ w'.cell? ⟨w.heap.size, 2, none⟩ = some (.int .i64 cr) ∧ w'.cell? ⟨w.heap.size, 3, none⟩ = some (.int .i64 cg)) (go_keep)
        (first | (go_at_call 80; refine (HPo.out _ hFF).mono ?_; rintro e w4 ⟨⟨u1, rfl, hU1⟩, hF2⟩; (replace hU1 := hid hU1); (replace hB := hB.kept hF2 (by simp)); (replace kB := hB.cell); (replace hFF := hFF.trans hF2)) | (go_at_call 81; refine (HRe.out _ hFF).mono ?_; rintro e w5 ⟨⟨u2, rfl, hU2⟩, hF2⟩; (replace hU2 := hid hU2); (replace hU1 := hid (hU1.out.kept0 hF2)); (replace hB := hB.kept hF2 (by simp)); (replace kB := hB.cell); (replace hFF := hFF.trans hF2)) | (go_at_call 58; refine (ints_true HLE.out hU1.out hU2.out).mono ?_; rintro e w6 ⟨rfl, hF2⟩; (replace hB := hB.kept hF2 (by simp)); (replace kB := hB.cell); (replace hFF := hFF.trans hF2)))
      go_wp2
      go_ret
      exact ⟨rfl, hFF⟩
  · go_enter Try.func19, Try.ntmps19
    have hB := Blk.new w [.int .i64 cc, .int .i64 cm, .int .i64 cr, .int .i64 cg] 45
    have kB := hB.cell
    have hFF := (Fr.refl [] w).alloc (.cells #[.int .i64 cc, .int .i64 cm, .int .i64 cr, .int .i64 cg] 45)
    go_wp2_with (first | (go_at_call 77; refine (awake16_any _).mono ?_; rintro e w2 ⟨rfl, hF2⟩; (replace hB := hB.kept hF2 (by simp)); (replace kB := hB.cell); (replace hFF := hFF.trans hF2)) | (go_at_call 53; refine (HG.out _).mono ?_; rintro e w2 ⟨rfl, hF2⟩; (replace hB := hB.kept hF2 (by simp)); (replace kB := hB.cell); (replace hFF := hFF.trans hF2)))
    go_ret
    exact ⟨rfl, hFF⟩

end Go.Proofs.Yteggckdgjecfmaa
