/- mudlarkref04.At of any part of any cell. -/
import Derived.Test.YtnhnbgkhbhgifaaRefAt
import Derived.Test.YtnhnbgkhbhgifaaRefHand
namespace Go.Proofs.Ytnhnbgkhbhgifaa
open Go.RowKit
set_option linter.unusedVariables false
set_option linter.unusedSimpArgs false

set_option maxRecDepth 100000 in
set_option maxHeartbeats 4000000 in
theorem rAtFar_any {c : Cfg} (hR : c.Right) (k p i : Int) (hk : k = 4 + p) (hp : 0 ≤ p ∧ p ≤ 2) (hi : i < 0 ∨ 4095 < i) (w : World) :
    Calls Try.prog 71 #[c.val, .agg #[.int .i64 k, .int .i64 i, .int .i64 0]] w fun e w' => e = .returned (.int .i64 (-1)) ∧ Fr [] w w' := by
  have HRt := hid (fun W => rRight_any c W true hR.right)
  have hA := cA_bd hR
  have c1 := hR.c1
  have e1 := hR.c0
  have m0 := hR.m0
  have m1 := hR.m1
  have r0 := hR.r0
  have r1 := hR.r1
  have g0 := hR.g0
  have g1 := hR.g1
  obtain ⟨cc, cm, cr, cg⟩ := c
  simp only [Cfg.cA] at hA c1 e1 m0 m1 r0 r1 g0 g1 ⊢
  have x0 : 0 ≤ cm * cr := Int.mul_nonneg (by omega) (by omega)
  have hw : IntKind.i64.wrap (cm * cr) = cm * cr := w64 _ (by omega)
  have q : k = 4 ∨ k = 5 ∨ k = 6 := by omega
  clear hp hR hk
  rcases hi with hi | hi
  · go_enter Try.func71, Try.ntmps71
    have hB := (Blk.new w [.int .i64 cc, .int .i64 cm, .int .i64 cr, .int .i64 cg] 45).alloc (.cells #[.int .i64 k, .int .i64 i, .int .i64 0] 119)
    have hS := Blk.new (w.alloc (.cells #[.int .i64 cc, .int .i64 cm, .int .i64 cr, .int .i64 cg] 45)) [.int .i64 k, .int .i64 i, .int .i64 0] 119
    rw [World.size_alloc] at hS
    have hFF := ((Fr.refl [] w).alloc (.cells #[.int .i64 cc, .int .i64 cm, .int .i64 cr, .int .i64 cg] 45)).alloc (.cells #[.int .i64 k, .int .i64 i, .int .i64 0] 119)
    have kB := hB.cell
    have kS := hS.cell
    go_wp2_with (first | (go_at_call 46; with_reducible refine (HRt.out _).mono ?_; rintro e w2 ⟨rfl, hF2⟩; (have hB := hB.kept hF2 (by simp)); (have hS := hS.kept hF2 (by simp)); (have kB := hB.cell); (have kS := hS.cell); (have hFF := hFF.trans hF2)))
    go_ret
    exact ⟨rfl, hFF⟩
  · have i0 : ¬ i < 0 := by omega
    have i1 : ¬ i < cc := by omega
    rcases q with rfl | rfl | rfl
    · go_enter Try.func71, Try.ntmps71
      have hB := (Blk.new w [.int .i64 cc, .int .i64 cm, .int .i64 cr, .int .i64 cg] 45).alloc (.cells #[.int .i64 4, .int .i64 i, .int .i64 0] 119)
      have hS := Blk.new (w.alloc (.cells #[.int .i64 cc, .int .i64 cm, .int .i64 cr, .int .i64 cg] 45)) [.int .i64 4, .int .i64 i, .int .i64 0] 119
      rw [World.size_alloc] at hS
      have hFF := ((Fr.refl [] w).alloc (.cells #[.int .i64 cc, .int .i64 cm, .int .i64 cr, .int .i64 cg] 45)).alloc (.cells #[.int .i64 4, .int .i64 i, .int .i64 0] 119)
      have kB := hB.cell
      have kS := hS.cell
      go_wp2_with (first | (go_at_call 46; with_reducible refine (HRt.out _).mono ?_; rintro e w2 ⟨rfl, hF2⟩; (have hB := hB.kept hF2 (by simp)); (have hS := hS.kept hF2 (by simp)); (have kB := hB.cell); (have kS := hS.cell); (have hFF := hFF.trans hF2)))
      go_ret
      exact ⟨rfl, hFF⟩
    · go_enter Try.func71, Try.ntmps71
      have hB := (Blk.new w [.int .i64 cc, .int .i64 cm, .int .i64 cr, .int .i64 cg] 45).alloc (.cells #[.int .i64 5, .int .i64 i, .int .i64 0] 119)
      have hS := Blk.new (w.alloc (.cells #[.int .i64 cc, .int .i64 cm, .int .i64 cr, .int .i64 cg] 45)) [.int .i64 5, .int .i64 i, .int .i64 0] 119
      rw [World.size_alloc] at hS
      have hFF := ((Fr.refl [] w).alloc (.cells #[.int .i64 cc, .int .i64 cm, .int .i64 cr, .int .i64 cg] 45)).alloc (.cells #[.int .i64 5, .int .i64 i, .int .i64 0] 119)
      have kB := hB.cell
      have kS := hS.cell
      go_wp2_with (first | (go_at_call 46; with_reducible refine (HRt.out _).mono ?_; rintro e w2 ⟨rfl, hF2⟩; (have hB := hB.kept hF2 (by simp)); (have hS := hS.kept hF2 (by simp)); (have kB := hB.cell); (have kS := hS.cell); (have hFF := hFF.trans hF2)))
      go_ret
      exact ⟨rfl, hFF⟩
    · go_enter Try.func71, Try.ntmps71
      have hB := (Blk.new w [.int .i64 cc, .int .i64 cm, .int .i64 cr, .int .i64 cg] 45).alloc (.cells #[.int .i64 6, .int .i64 i, .int .i64 0] 119)
      have hS := Blk.new (w.alloc (.cells #[.int .i64 cc, .int .i64 cm, .int .i64 cr, .int .i64 cg] 45)) [.int .i64 6, .int .i64 i, .int .i64 0] 119
      rw [World.size_alloc] at hS
      have hFF := ((Fr.refl [] w).alloc (.cells #[.int .i64 cc, .int .i64 cm, .int .i64 cr, .int .i64 cg] 45)).alloc (.cells #[.int .i64 6, .int .i64 i, .int .i64 0] 119)
      have kB := hB.cell
      have kS := hS.cell
      go_wp2_with (first | (go_at_call 46; with_reducible refine (HRt.out _).mono ?_; rintro e w2 ⟨rfl, hF2⟩; (have hB := hB.kept hF2 (by simp)); (have hS := hS.kept hF2 (by simp)); (have kB := hB.cell); (have kS := hS.cell); (have hFF := hFF.trans hF2)))
      go_ret
      exact ⟨rfl, hFF⟩

theorem rAtAll_any {c : Cfg} (hR : c.Right) (k p i : Int) (hk : k = 4 + p) (hp : 0 ≤ p ∧ p ≤ 2) (w : World) :
    Calls Try.prog 71 #[c.val, .agg #[.int .i64 k, .int .i64 i, .int .i64 0]] w fun e w' => e = .returned (.int .i64 (c.cellP p i)) ∧ Fr [] w w' := by
  by_cases hi : 0 ≤ i ∧ i ≤ 4095
  · subst hk
    exact rAtCell_any hR p i hp hi w
  · have e : c.cellP p i = -1 := by
      have := hR.c1
      unfold Cfg.cellP pAt
      rw [if_neg (by omega)]
    rw [e]
    exact rAtFar_any hR k p i hk hp (by omega) w


end Go.Proofs.Ytnhnbgkhbhgifaa
