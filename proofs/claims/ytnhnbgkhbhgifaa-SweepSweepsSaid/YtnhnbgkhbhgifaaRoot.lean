/- The place of a root. -/
import Derived.Test.YtnhnbgkhbhgifaaHandNew
import Derived.Test.YtnhnbgkhbhgifaaRef03
namespace Go.Proofs.Ytnhnbgkhbhgifaa
open Go.RowKit
set_option linter.unusedVariables false
set_option linter.unusedSimpArgs false

theorem mr_bd {c : Cfg} (hR : c.Right) : 0 ≤ c.muts * c.regs ∧ c.muts * c.regs ≤ 4096 := by
  have h1 := hR.mr
  have := hR.m0
  have := hR.r0
  exact ⟨Int.mul_nonneg (by omega) (by omega), by omega⟩

set_option maxRecDepth 100000 in
theorem root_any {c : Cfg} (hR : c.Right) (j : Int) (hj : -1000000 ≤ j ∧ j ≤ 1000000) (w : World) :
    Calls Try.prog 117 #[c.val, .int .i64 j] w fun e w' => e = .returned (.int .i64 (c.rootP j)) ∧ Fr [] w w' := by
  have HC := hid (fun W => size_any hR W)
  have hw := hR.words_pos
  obtain ⟨z, hz⟩ : ∃ z, z = c.words := ⟨_, rfl⟩
  rw [← hz] at HC hw
  clear hz
  have hz0 : (z == 0) = false := beq_eq_false_iff_ne.2 (by omega)
  clear hw
  by_cases h0 : j = 0
  · subst h0
    have HA := hid (fun W => pat_any hR 0 0 1 1 (by omega) (by omega) W)
    have e : c.rootP 0 = pAt 0 0 1 1 := by simp [Cfg.rootP, pAt]
    rw [e]
    obtain ⟨y, hy⟩ : ∃ y, y = pAt 0 0 1 1 := ⟨_, rfl⟩
    rw [← hy] at HA ⊢
    clear hy e
    obtain ⟨cc, cm, cr, cg⟩ := c
    go_enter Try.func117, Try.ntmps117
    have hB := Blk.new w [.int .i64 cc, .int .i64 cm, .int .i64 cr, .int .i64 cg] 73
    have hFF := (Fr.refl [] w).alloc (.cells #[.int .i64 cc, .int .i64 cm, .int .i64 cr, .int .i64 cg] 73)
    go_wp2_with (first | (go_at_call 99; refine (HC.out _).mono ?_; rintro e w2 ⟨rfl, hF2⟩; (have hB := hB.kept hF2 (by simp)); (have kB := hB.cell); (have hFF := hFF.trans hF2)) | (go_at_call 149; refine (HA.out _).mono ?_; rintro e w2 ⟨rfl, hF2⟩; (have hFF := hFF.trans hF2)))
    go_ret
    exact ⟨rfl, hFF⟩
  · have hm := mr_bd hR
    have g0 := hR.g0
    have g1 := hR.g1
    have m0 := hR.m0
    have m1 := hR.m1
    have HA := hid (fun W => globs_any hR W)
    have HC2 := hid (fun W => pat_any hR c.gA (j - 1) (c.globs + c.muts * c.regs) 1 (by unfold Cfg.gA; omega) (by omega) W)
    have e : c.rootP j = pAt c.gA (j - 1) (c.globs + c.muts * c.regs) 1 := by simp [Cfg.rootP, h0]
    rw [e]
    obtain ⟨y, hy⟩ : ∃ y, y = pAt c.gA (j - 1) (c.globs + c.muts * c.regs) 1 := ⟨_, rfl⟩
    rw [← hy] at HC2 ⊢
    obtain ⟨gA, hgA⟩ : ∃ y, y = c.gA := ⟨_, rfl⟩
    rw [← hgA] at HA HC2
    clear hy e hgA
    have e1 : IntKind.i64.wrap (c.muts * c.regs) = c.muts * c.regs := w64 _ (by omega)
    have e2 : IntKind.i64.wrap (c.globs + c.muts * c.regs) = c.globs + c.muts * c.regs := w64 _ (by omega)
    have e3 : (j == 0) = false := beq_eq_false_iff_ne.2 h0
    have e4 : IntKind.i64.wrap (j - 1) = j - 1 := w64 _ (by omega)
    have j0 := hj.1
    have j1 := hj.2
    obtain ⟨cc, cm, cr, cg⟩ := c
    simp only at e1 e2 g0 g1 m0 m1 hm
    have HC2 := hid (fun W => HC2.out W)
    simp only at HC2
    go_enter Try.func117, Try.ntmps117
    have hB := Blk.new w [.int .i64 cc, .int .i64 cm, .int .i64 cr, .int .i64 cg] 73
    have hFF := (Fr.refl [] w).alloc (.cells #[.int .i64 cc, .int .i64 cm, .int .i64 cr, .int .i64 cg] 73)
    go_wp2_with (first | (go_at_call 99; refine (HC.out _).mono ?_; rintro e w2 ⟨rfl, hF2⟩; (have hB := hB.kept hF2 (by simp)); (have kB := hB.cell); (have hFF := hFF.trans hF2)))
    have hB := hB.drew
    have hFF := hFF.drew
    go_region_held3 (fun w' => w'.cell? ⟨w.heap.size, 0, none⟩ = some (.int .i64 cc) ∧ w'.cell? ⟨w.heap.size, 1, none⟩ = some (.int .i64 cm) ∧ w'.cell? ⟨w.heap.size, 2, none⟩ = some (.int .i64 cr) ∧ w'.cell? ⟨w.heap.size, 3, none⟩ = some (.int .i64 cg)) (go_keep)
      (first | (go_at_call 158; refine (HA.out _).mono ?_; rintro e w4 ⟨rfl, hF2⟩; (have hB := hB.kept hF2 (by simp)); (have kB := hB.cell); (have hFF := hFF.trans hF2)) | (go_at_call 149; with_reducible refine (HC2.out _).mono ?_; rintro e w4 ⟨rfl, hF2⟩; (have hB := hB.kept hF2 (by simp)); (have kB := hB.cell); (have hFF := hFF.trans hF2)))
    go_wp2
    go_ret
    exact ⟨rfl, hFF⟩


end Go.Proofs.Ytnhnbgkhbhgifaa
