/- mudlarkref04.At of a cell's part; mudlarkref07's Field. -/
import Derived.Test.YtnhnbgkhbhgifaaRef03
import Derived.Test.YtnhnbgkhbhgifaaHandNew
namespace Go.Proofs.Ytnhnbgkhbhgifaa
open Go.RowKit
set_option linter.unusedVariables false
set_option linter.unusedSimpArgs false

set_option maxHeartbeats 4000000 in
theorem rAtCell_any {c : Cfg} (hR : c.Right) (p i : Int) (hp : 0 ≤ p ∧ p ≤ 2) (hi : 0 ≤ i ∧ i ≤ 4095) (w : World) :
    Calls Try.prog 71 #[c.val, .agg #[.int .i64 (4 + p), .int .i64 i, .int .i64 0]] w fun e w' => e = .returned (.int .i64 (c.cellP p i)) ∧ Fr [] w w' := by
  have HRt := hid (fun W => rRight_any c W true hR.right)
  have hA := cA_bd hR
  have c1 := hR.c1
  have e1 := hR.c0
  have m0 := hR.m0
  have m1 := hR.m1
  have r0 := hR.r0
  have r1 := hR.r1
  have g0 := hR.g0
  have g1 := hR.g1
  obtain ⟨cc, cm, cr, cg⟩ := c
  simp only [Cfg.cellP, Cfg.cA, pAt] at hA c1 e1 m0 m1 r0 r1 g0 g1 ⊢
  have x0 : 0 ≤ cm * cr := Int.mul_nonneg (by omega) (by omega)
  have hw : IntKind.i64.wrap (cm * cr) = cm * cr := w64 _ (by omega)
  have q : p = 0 ∨ p = 1 ∨ p = 2 := by omega
  clear hp hR
  by_cases hlt : i < cc
  · rw [if_pos ⟨hi.1, hlt⟩]
    rcases q with rfl | rfl | rfl
    · have e4 : (4 : Int) + 0 = 4 := rfl
      rw [e4]
      clear e4
      go_enter Try.func71, Try.ntmps71
      have hB := (Blk.new w [.int .i64 cc, .int .i64 cm, .int .i64 cr, .int .i64 cg] 45).alloc (.cells #[.int .i64 4, .int .i64 i, .int .i64 0] 119)
      have hS := Blk.new (w.alloc (.cells #[.int .i64 cc, .int .i64 cm, .int .i64 cr, .int .i64 cg] 45)) [.int .i64 4, .int .i64 i, .int .i64 0] 119
      rw [World.size_alloc] at hS
      have hFF := ((Fr.refl [] w).alloc (.cells #[.int .i64 cc, .int .i64 cm, .int .i64 cr, .int .i64 cg] 45)).alloc (.cells #[.int .i64 4, .int .i64 i, .int .i64 0] 119)
      have kB := hB.cell
      have kS := hS.cell
      go_wp2_with (first | (go_at_call 46; with_reducible refine (HRt.out _).mono ?_; rintro e w2 ⟨rfl, hF2⟩; (have hB := hB.kept hF2 (by simp)); (have hS := hS.kept hF2 (by simp)); (have kB := hB.cell); (have kS := hS.cell); (have hFF := hFF.trans hF2)))
      go_ret
      refine ⟨?_, hFF⟩
      simp
      try omega
    · have e4 : (4 : Int) + 1 = 5 := rfl
      rw [e4]
      clear e4
      go_enter Try.func71, Try.ntmps71
      have hB := (Blk.new w [.int .i64 cc, .int .i64 cm, .int .i64 cr, .int .i64 cg] 45).alloc (.cells #[.int .i64 5, .int .i64 i, .int .i64 0] 119)
      have hS := Blk.new (w.alloc (.cells #[.int .i64 cc, .int .i64 cm, .int .i64 cr, .int .i64 cg] 45)) [.int .i64 5, .int .i64 i, .int .i64 0] 119
      rw [World.size_alloc] at hS
      have hFF := ((Fr.refl [] w).alloc (.cells #[.int .i64 cc, .int .i64 cm, .int .i64 cr, .int .i64 cg] 45)).alloc (.cells #[.int .i64 5, .int .i64 i, .int .i64 0] 119)
      have kB := hB.cell
      have kS := hS.cell
      go_wp2_with (first | (go_at_call 46; with_reducible refine (HRt.out _).mono ?_; rintro e w2 ⟨rfl, hF2⟩; (have hB := hB.kept hF2 (by simp)); (have hS := hS.kept hF2 (by simp)); (have kB := hB.cell); (have kS := hS.cell); (have hFF := hFF.trans hF2)))
      go_ret
      refine ⟨?_, hFF⟩
      simp
      try omega
    · have e4 : (4 : Int) + 2 = 6 := rfl
      rw [e4]
      clear e4
      go_enter Try.func71, Try.ntmps71
      have hB := (Blk.new w [.int .i64 cc, .int .i64 cm, .int .i64 cr, .int .i64 cg] 45).alloc (.cells #[.int .i64 6, .int .i64 i, .int .i64 0] 119)
      have hS := Blk.new (w.alloc (.cells #[.int .i64 cc, .int .i64 cm, .int .i64 cr, .int .i64 cg] 45)) [.int .i64 6, .int .i64 i, .int .i64 0] 119
      rw [World.size_alloc] at hS
      have hFF := ((Fr.refl [] w).alloc (.cells #[.int .i64 cc, .int .i64 cm, .int .i64 cr, .int .i64 cg] 45)).alloc (.cells #[.int .i64 6, .int .i64 i, .int .i64 0] 119)
      have kB := hB.cell
      have kS := hS.cell
      go_wp2_with (first | (go_at_call 46; with_reducible refine (HRt.out _).mono ?_; rintro e w2 ⟨rfl, hF2⟩; (have hB := hB.kept hF2 (by simp)); (have hS := hS.kept hF2 (by simp)); (have kB := hB.cell); (have kS := hS.cell); (have hFF := hFF.trans hF2)))
      go_ret
      refine ⟨?_, hFF⟩
      simp
      try omega
  · rw [if_neg (by omega)]
    rcases q with rfl | rfl | rfl
    · have e4 : (4 : Int) + 0 = 4 := rfl
      rw [e4]
      clear e4
      go_enter Try.func71, Try.ntmps71
      have hB := (Blk.new w [.int .i64 cc, .int .i64 cm, .int .i64 cr, .int .i64 cg] 45).alloc (.cells #[.int .i64 4, .int .i64 i, .int .i64 0] 119)
      have hS := Blk.new (w.alloc (.cells #[.int .i64 cc, .int .i64 cm, .int .i64 cr, .int .i64 cg] 45)) [.int .i64 4, .int .i64 i, .int .i64 0] 119
      rw [World.size_alloc] at hS
      have hFF := ((Fr.refl [] w).alloc (.cells #[.int .i64 cc, .int .i64 cm, .int .i64 cr, .int .i64 cg] 45)).alloc (.cells #[.int .i64 4, .int .i64 i, .int .i64 0] 119)
      have kB := hB.cell
      have kS := hS.cell
      go_wp2_with (first | (go_at_call 46; with_reducible refine (HRt.out _).mono ?_; rintro e w2 ⟨rfl, hF2⟩; (have hB := hB.kept hF2 (by simp)); (have hS := hS.kept hF2 (by simp)); (have kB := hB.cell); (have kS := hS.cell); (have hFF := hFF.trans hF2)))
      go_ret
      refine ⟨?_, hFF⟩
      simp
      try omega
    · have e4 : (4 : Int) + 1 = 5 := rfl
      rw [e4]
      clear e4
      go_enter Try.func71, Try.ntmps71
      have hB := (Blk.new w [.int .i64 cc, .int .i64 cm, .int .i64 cr, .int .i64 cg] 45).alloc (.cells #[.int .i64 5, .int .i64 i, .int .i64 0] 119)
      have hS := Blk.new (w.alloc (.cells #[.int .i64 cc, .int .i64 cm, .int .i64 cr, .int .i64 cg] 45)) [.int .i64 5, .int .i64 i, .int .i64 0] 119
      rw [World.size_alloc] at hS
      have hFF := ((Fr.refl [] w).alloc (.cells #[.int .i64 cc, .int .i64 cm, .int .i64 cr, .int .i64 cg] 45)).alloc (.cells #[.int .i64 5, .int .i64 i, .int .i64 0] 119)
      have kB := hB.cell
      have kS := hS.cell
      go_wp2_with (first | (go_at_call 46; with_reducible refine (HRt.out _).mono ?_; rintro e w2 ⟨rfl, hF2⟩; (have hB := hB.kept hF2 (by simp)); (have hS := hS.kept hF2 (by simp)); (have kB := hB.cell); (have kS := hS.cell); (have hFF := hFF.trans hF2)))
      go_ret
      refine ⟨?_, hFF⟩
      simp
      try omega
    · have e4 : (4 : Int) + 2 = 6 := rfl
      rw [e4]
      clear e4
      go_enter Try.func71, Try.ntmps71
      have hB := (Blk.new w [.int .i64 cc, .int .i64 cm, .int .i64 cr, .int .i64 cg] 45).alloc (.cells #[.int .i64 6, .int .i64 i, .int .i64 0] 119)
      have hS := Blk.new (w.alloc (.cells #[.int .i64 cc, .int .i64 cm, .int .i64 cr, .int .i64 cg] 45)) [.int .i64 6, .int .i64 i, .int .i64 0] 119
      rw [World.size_alloc] at hS
      have hFF := ((Fr.refl [] w).alloc (.cells #[.int .i64 cc, .int .i64 cm, .int .i64 cr, .int .i64 cg] 45)).alloc (.cells #[.int .i64 6, .int .i64 i, .int .i64 0] 119)
      have kB := hB.cell
      have kS := hS.cell
      go_wp2_with (first | (go_at_call 46; with_reducible refine (HRt.out _).mono ?_; rintro e w2 ⟨rfl, hF2⟩; (have hB := hB.kept hF2 (by simp)); (have hS := hS.kept hF2 (by simp)); (have kB := hB.cell); (have kS := hS.cell); (have hFF := hFF.trans hF2)))
      go_ret
      refine ⟨?_, hFF⟩
      simp
      try omega

end Go.Proofs.Ytnhnbgkhbhgifaa
