/- mudlarkref04.At of an in, a global, a register; mudlarkref07's In, Glob, Reg. -/
import Derived.Test.YteggckdgjecfmaaRefAt
import Derived.Test.YteggckdgjecfmaaRefHand
namespace Go.Proofs.Yteggckdgjecfmaa
open Go.RowKit
set_option linter.unusedVariables false
set_option linter.unusedSimpArgs false

theorem if_both (P Q : Prop) [Decidable P] [Decidable Q] (x : Int) (h : ¬ (P ∧ Q)) : (if P then (if Q then x else -1) else -1) = -1 := by
  by_cases hp : P
  · rw [if_pos hp, if_neg (fun hq => h ⟨hp, hq⟩)]
  · rw [if_neg hp]

set_option maxRecDepth 100000 in
set_option maxHeartbeats 4000000 in
theorem rAtIn_any {c : Cfg} (hR : c.Right) (i : Int) (w : World) :
    Calls Try.prog 76 #[c.val, .agg #[.int .i64 1, .int .i64 i, .int .i64 0]] w fun e w' => e = .returned (.int .i64 (Cfg.inP c i)) ∧ Fr [] w w' := by
  have HRt := hid (fun W => rRight_any c W true hR.right)
  have hA := cA_bd hR
  have c1 := hR.c1
  have e1 := hR.c0
  have m0 := hR.m0
  have m1 := hR.m1
  have r0 := hR.r0
  have r1 := hR.r1
  have g0 := hR.g0
  have g1 := hR.g1
  obtain ⟨cc, cm, cr, cg⟩ := c
  simp only [Cfg.cA, Cfg.inP, Cfg.globP, Cfg.regP, Cfg.gA, Cfg.rA, pAt] at hA c1 e1 m0 m1 r0 r1 g0 g1 ⊢
  have x0 : 0 ≤ cm * cr := Int.mul_nonneg (by omega) (by omega)
  have hw : IntKind.i64.wrap (cm * cr) = cm * cr := w64 _ (by omega)
  clear hR
  by_cases h1 : i < 0
  · (rw [if_neg (by omega)])
    go_enter Try.func76, Try.ntmps76
    have hB := (Blk.new w [.int .i64 cc, .int .i64 cm, .int .i64 cr, .int .i64 cg] 45).alloc (.cells #[.int .i64 1, .int .i64 i, .int .i64 0] 110)
    have hS := Blk.new (w.alloc (.cells #[.int .i64 cc, .int .i64 cm, .int .i64 cr, .int .i64 cg] 45)) [.int .i64 1, .int .i64 i, .int .i64 0] 110
    rw [World.size_alloc] at hS
    have hFF := ((Fr.refl [] w).alloc (.cells #[.int .i64 cc, .int .i64 cm, .int .i64 cr, .int .i64 cg] 45)).alloc (.cells #[.int .i64 1, .int .i64 i, .int .i64 0] 110)
    have kB := hB.cell
    have kS := hS.cell
    go_wp2_with (first | (go_at_call 127; with_reducible refine (HRt.out _).mono ?_; rintro e w2 ⟨rfl, hF2⟩; (have hB := hB.kept hF2 (by simp)); (have hS := hS.kept hF2 (by simp)); (have kB := hB.cell); (have kS := hS.cell); (have hFF := hFF.trans hF2)))
    go_ret
    exact ⟨rfl, hFF⟩
  by_cases h2 : cm ≤ i
  · (rw [if_neg (by omega)])
    have nh2 : ¬ i < cm := by omega
    go_enter Try.func76, Try.ntmps76
    have hB := (Blk.new w [.int .i64 cc, .int .i64 cm, .int .i64 cr, .int .i64 cg] 45).alloc (.cells #[.int .i64 1, .int .i64 i, .int .i64 0] 110)
    have hS := Blk.new (w.alloc (.cells #[.int .i64 cc, .int .i64 cm, .int .i64 cr, .int .i64 cg] 45)) [.int .i64 1, .int .i64 i, .int .i64 0] 110
    rw [World.size_alloc] at hS
    have hFF := ((Fr.refl [] w).alloc (.cells #[.int .i64 cc, .int .i64 cm, .int .i64 cr, .int .i64 cg] 45)).alloc (.cells #[.int .i64 1, .int .i64 i, .int .i64 0] 110)
    have kB := hB.cell
    have kS := hS.cell
    go_wp2_with (first | (go_at_call 127; with_reducible refine (HRt.out _).mono ?_; rintro e w2 ⟨rfl, hF2⟩; (have hB := hB.kept hF2 (by simp)); (have hS := hS.kept hF2 (by simp)); (have kB := hB.cell); (have kS := hS.cell); (have hFF := hFF.trans hF2)))
    go_ret
    exact ⟨rfl, hFF⟩
  rw [if_pos (by omega)]
  have l1 : i < cm := by omega
  have l0 : 0 ≤ i := by omega
  clear h1 h2
  go_enter Try.func76, Try.ntmps76
  have hB := (Blk.new w [.int .i64 cc, .int .i64 cm, .int .i64 cr, .int .i64 cg] 45).alloc (.cells #[.int .i64 1, .int .i64 i, .int .i64 0] 110)
  have hS := Blk.new (w.alloc (.cells #[.int .i64 cc, .int .i64 cm, .int .i64 cr, .int .i64 cg] 45)) [.int .i64 1, .int .i64 i, .int .i64 0] 110
  rw [World.size_alloc] at hS
  have hFF := ((Fr.refl [] w).alloc (.cells #[.int .i64 cc, .int .i64 cm, .int .i64 cr, .int .i64 cg] 45)).alloc (.cells #[.int .i64 1, .int .i64 i, .int .i64 0] 110)
  have kB := hB.cell
  have kS := hS.cell
  go_wp2_with (first | (go_at_call 127; with_reducible refine (HRt.out _).mono ?_; rintro e w2 ⟨rfl, hF2⟩; (have hB := hB.kept hF2 (by simp)); (have hS := hS.kept hF2 (by simp)); (have kB := hB.cell); (have kS := hS.cell); (have hFF := hFF.trans hF2)))
  go_ret
  refine ⟨?_, hFF⟩
  simp
  try omega

set_option maxRecDepth 100000 in
set_option maxHeartbeats 4000000 in
theorem rAtGlob_any {c : Cfg} (hR : c.Right) (i : Int) (w : World) :
    Calls Try.prog 76 #[c.val, .agg #[.int .i64 2, .int .i64 i, .int .i64 0]] w fun e w' => e = .returned (.int .i64 (Cfg.globP c i)) ∧ Fr [] w w' := by
  have HRt := hid (fun W => rRight_any c W true hR.right)
  have hA := cA_bd hR
  have c1 := hR.c1
  have e1 := hR.c0
  have m0 := hR.m0
  have m1 := hR.m1
  have r0 := hR.r0
  have r1 := hR.r1
  have g0 := hR.g0
  have g1 := hR.g1
  obtain ⟨cc, cm, cr, cg⟩ := c
  simp only [Cfg.cA, Cfg.inP, Cfg.globP, Cfg.regP, Cfg.gA, Cfg.rA, pAt] at hA c1 e1 m0 m1 r0 r1 g0 g1 ⊢
  have x0 : 0 ≤ cm * cr := Int.mul_nonneg (by omega) (by omega)
  have hw : IntKind.i64.wrap (cm * cr) = cm * cr := w64 _ (by omega)
  clear hR
  by_cases h1 : i < 0
  · (rw [if_neg (by omega)])
    go_enter Try.func76, Try.ntmps76
    have hB := (Blk.new w [.int .i64 cc, .int .i64 cm, .int .i64 cr, .int .i64 cg] 45).alloc (.cells #[.int .i64 2, .int .i64 i, .int .i64 0] 110)
    have hS := Blk.new (w.alloc (.cells #[.int .i64 cc, .int .i64 cm, .int .i64 cr, .int .i64 cg] 45)) [.int .i64 2, .int .i64 i, .int .i64 0] 110
    rw [World.size_alloc] at hS
    have hFF := ((Fr.refl [] w).alloc (.cells #[.int .i64 cc, .int .i64 cm, .int .i64 cr, .int .i64 cg] 45)).alloc (.cells #[.int .i64 2, .int .i64 i, .int .i64 0] 110)
    have kB := hB.cell
    have kS := hS.cell
    go_wp2_with (first | (go_at_call 127; with_reducible refine (HRt.out _).mono ?_; rintro e w2 ⟨rfl, hF2⟩; (have hB := hB.kept hF2 (by simp)); (have hS := hS.kept hF2 (by simp)); (have kB := hB.cell); (have kS := hS.cell); (have hFF := hFF.trans hF2)))
    go_ret
    exact ⟨rfl, hFF⟩
  by_cases h2 : cg ≤ i
  · (rw [if_neg (by omega)])
    have nh2 : ¬ i < cg := by omega
    go_enter Try.func76, Try.ntmps76
    have hB := (Blk.new w [.int .i64 cc, .int .i64 cm, .int .i64 cr, .int .i64 cg] 45).alloc (.cells #[.int .i64 2, .int .i64 i, .int .i64 0] 110)
    have hS := Blk.new (w.alloc (.cells #[.int .i64 cc, .int .i64 cm, .int .i64 cr, .int .i64 cg] 45)) [.int .i64 2, .int .i64 i, .int .i64 0] 110
    rw [World.size_alloc] at hS
    have hFF := ((Fr.refl [] w).alloc (.cells #[.int .i64 cc, .int .i64 cm, .int .i64 cr, .int .i64 cg] 45)).alloc (.cells #[.int .i64 2, .int .i64 i, .int .i64 0] 110)
    have kB := hB.cell
    have kS := hS.cell
    go_wp2_with (first | (go_at_call 127; with_reducible refine (HRt.out _).mono ?_; rintro e w2 ⟨rfl, hF2⟩; (have hB := hB.kept hF2 (by simp)); (have hS := hS.kept hF2 (by simp)); (have kB := hB.cell); (have kS := hS.cell); (have hFF := hFF.trans hF2)))
    go_ret
    exact ⟨rfl, hFF⟩
  rw [if_pos (by omega)]
  have l1 : i < cg := by omega
  have l0 : 0 ≤ i := by omega
  clear h1 h2
  go_enter Try.func76, Try.ntmps76
  have hB := (Blk.new w [.int .i64 cc, .int .i64 cm, .int .i64 cr, .int .i64 cg] 45).alloc (.cells #[.int .i64 2, .int .i64 i, .int .i64 0] 110)
  have hS := Blk.new (w.alloc (.cells #[.int .i64 cc, .int .i64 cm, .int .i64 cr, .int .i64 cg] 45)) [.int .i64 2, .int .i64 i, .int .i64 0] 110
  rw [World.size_alloc] at hS
  have hFF := ((Fr.refl [] w).alloc (.cells #[.int .i64 cc, .int .i64 cm, .int .i64 cr, .int .i64 cg] 45)).alloc (.cells #[.int .i64 2, .int .i64 i, .int .i64 0] 110)
  have kB := hB.cell
  have kS := hS.cell
  go_wp2_with (first | (go_at_call 127; with_reducible refine (HRt.out _).mono ?_; rintro e w2 ⟨rfl, hF2⟩; (have hB := hB.kept hF2 (by simp)); (have hS := hS.kept hF2 (by simp)); (have kB := hB.cell); (have kS := hS.cell); (have hFF := hFF.trans hF2)))
  go_ret
  refine ⟨?_, hFF⟩
  simp
  try omega

set_option maxRecDepth 100000 in
set_option maxHeartbeats 4000000 in
theorem rAtReg_any {c : Cfg} (hR : c.Right) (i j : Int) (w : World) :
    Calls Try.prog 76 #[c.val, .agg #[.int .i64 3, .int .i64 i, .int .i64 j]] w fun e w' => e = .returned (.int .i64 (Cfg.regP c i j)) ∧ Fr [] w w' := by
  have HRt := hid (fun W => rRight_any c W true hR.right)
  have hA := cA_bd hR
  have c1 := hR.c1
  have e1 := hR.c0
  have m0 := hR.m0
  have m1 := hR.m1
  have r0 := hR.r0
  have r1 := hR.r1
  have g0 := hR.g0
  have g1 := hR.g1
  obtain ⟨cc, cm, cr, cg⟩ := c
  simp only [Cfg.cA, Cfg.inP, Cfg.globP, Cfg.regP, Cfg.gA, Cfg.rA, pAt] at hA c1 e1 m0 m1 r0 r1 g0 g1 ⊢
  have x0 : 0 ≤ cm * cr := Int.mul_nonneg (by omega) (by omega)
  have hw : IntKind.i64.wrap (cm * cr) = cm * cr := w64 _ (by omega)
  clear hR
  by_cases h1 : i < 0
  · (rw [if_both _ _ _ (by omega)])
    go_enter Try.func76, Try.ntmps76
    have hB := (Blk.new w [.int .i64 cc, .int .i64 cm, .int .i64 cr, .int .i64 cg] 45).alloc (.cells #[.int .i64 3, .int .i64 i, .int .i64 j] 110)
    have hS := Blk.new (w.alloc (.cells #[.int .i64 cc, .int .i64 cm, .int .i64 cr, .int .i64 cg] 45)) [.int .i64 3, .int .i64 i, .int .i64 j] 110
    rw [World.size_alloc] at hS
    have hFF := ((Fr.refl [] w).alloc (.cells #[.int .i64 cc, .int .i64 cm, .int .i64 cr, .int .i64 cg] 45)).alloc (.cells #[.int .i64 3, .int .i64 i, .int .i64 j] 110)
    have kB := hB.cell
    have kS := hS.cell
    go_wp2_with (first | (go_at_call 127; with_reducible refine (HRt.out _).mono ?_; rintro e w2 ⟨rfl, hF2⟩; (have hB := hB.kept hF2 (by simp)); (have hS := hS.kept hF2 (by simp)); (have kB := hB.cell); (have kS := hS.cell); (have hFF := hFF.trans hF2)))
    go_ret
    exact ⟨rfl, hFF⟩
  by_cases h3 : j < 0
  · (rw [if_both _ _ _ (by omega)])
    go_enter Try.func76, Try.ntmps76
    have hB := (Blk.new w [.int .i64 cc, .int .i64 cm, .int .i64 cr, .int .i64 cg] 45).alloc (.cells #[.int .i64 3, .int .i64 i, .int .i64 j] 110)
    have hS := Blk.new (w.alloc (.cells #[.int .i64 cc, .int .i64 cm, .int .i64 cr, .int .i64 cg] 45)) [.int .i64 3, .int .i64 i, .int .i64 j] 110
    rw [World.size_alloc] at hS
    have hFF := ((Fr.refl [] w).alloc (.cells #[.int .i64 cc, .int .i64 cm, .int .i64 cr, .int .i64 cg] 45)).alloc (.cells #[.int .i64 3, .int .i64 i, .int .i64 j] 110)
    have kB := hB.cell
    have kS := hS.cell
    go_wp2_with (first | (go_at_call 127; with_reducible refine (HRt.out _).mono ?_; rintro e w2 ⟨rfl, hF2⟩; (have hB := hB.kept hF2 (by simp)); (have hS := hS.kept hF2 (by simp)); (have kB := hB.cell); (have kS := hS.cell); (have hFF := hFF.trans hF2)))
    go_ret
    exact ⟨rfl, hFF⟩
  by_cases h2 : cm ≤ i
  · (rw [if_both _ _ _ (by omega)])
    have nh2 : ¬ i < cm := by omega
    go_enter Try.func76, Try.ntmps76
    have hB := (Blk.new w [.int .i64 cc, .int .i64 cm, .int .i64 cr, .int .i64 cg] 45).alloc (.cells #[.int .i64 3, .int .i64 i, .int .i64 j] 110)
    have hS := Blk.new (w.alloc (.cells #[.int .i64 cc, .int .i64 cm, .int .i64 cr, .int .i64 cg] 45)) [.int .i64 3, .int .i64 i, .int .i64 j] 110
    rw [World.size_alloc] at hS
    have hFF := ((Fr.refl [] w).alloc (.cells #[.int .i64 cc, .int .i64 cm, .int .i64 cr, .int .i64 cg] 45)).alloc (.cells #[.int .i64 3, .int .i64 i, .int .i64 j] 110)
    have kB := hB.cell
    have kS := hS.cell
    go_wp2_with (first | (go_at_call 127; with_reducible refine (HRt.out _).mono ?_; rintro e w2 ⟨rfl, hF2⟩; (have hB := hB.kept hF2 (by simp)); (have hS := hS.kept hF2 (by simp)); (have kB := hB.cell); (have kS := hS.cell); (have hFF := hFF.trans hF2)))
    go_ret
    exact ⟨rfl, hFF⟩
  by_cases h4 : cr ≤ j
  · (rw [if_both _ _ _ (by omega)])
    have nh4 : ¬ j < cr := by omega
    go_enter Try.func76, Try.ntmps76
    have hB := (Blk.new w [.int .i64 cc, .int .i64 cm, .int .i64 cr, .int .i64 cg] 45).alloc (.cells #[.int .i64 3, .int .i64 i, .int .i64 j] 110)
    have hS := Blk.new (w.alloc (.cells #[.int .i64 cc, .int .i64 cm, .int .i64 cr, .int .i64 cg] 45)) [.int .i64 3, .int .i64 i, .int .i64 j] 110
    rw [World.size_alloc] at hS
    have hFF := ((Fr.refl [] w).alloc (.cells #[.int .i64 cc, .int .i64 cm, .int .i64 cr, .int .i64 cg] 45)).alloc (.cells #[.int .i64 3, .int .i64 i, .int .i64 j] 110)
    have kB := hB.cell
    have kS := hS.cell
    go_wp2_with (first | (go_at_call 127; with_reducible refine (HRt.out _).mono ?_; rintro e w2 ⟨rfl, hF2⟩; (have hB := hB.kept hF2 (by simp)); (have hS := hS.kept hF2 (by simp)); (have kB := hB.cell); (have kS := hS.cell); (have hFF := hFF.trans hF2)))
    go_ret
    exact ⟨rfl, hFF⟩
  rw [if_pos (by omega), if_pos (by omega)]
  have l1 : i < cm := by omega
  have l0 : 0 ≤ i := by omega
  have l2 : j < cr := by omega
  have l3 : 0 ≤ j := by omega
  have x1 : 0 ≤ i * cr := Int.mul_nonneg l0 (by omega)
  have x2 : i * cr ≤ cm * cr := Int.mul_le_mul_of_nonneg_right (by omega) (by omega)
  have hw2 : IntKind.i64.wrap (i * cr) = i * cr := w64 _ (by omega)
  clear h1 h3 h2 h4
  go_enter Try.func76, Try.ntmps76
  have hB := (Blk.new w [.int .i64 cc, .int .i64 cm, .int .i64 cr, .int .i64 cg] 45).alloc (.cells #[.int .i64 3, .int .i64 i, .int .i64 j] 110)
  have hS := Blk.new (w.alloc (.cells #[.int .i64 cc, .int .i64 cm, .int .i64 cr, .int .i64 cg] 45)) [.int .i64 3, .int .i64 i, .int .i64 j] 110
  rw [World.size_alloc] at hS
  have hFF := ((Fr.refl [] w).alloc (.cells #[.int .i64 cc, .int .i64 cm, .int .i64 cr, .int .i64 cg] 45)).alloc (.cells #[.int .i64 3, .int .i64 i, .int .i64 j] 110)
  have kB := hB.cell
  have kS := hS.cell
  go_wp2_with (first | (go_at_call 127; with_reducible refine (HRt.out _).mono ?_; rintro e w2 ⟨rfl, hF2⟩; (have hB := hB.kept hF2 (by simp)); (have hS := hS.kept hF2 (by simp)); (have kB := hB.cell); (have kS := hS.cell); (have hFF := hFF.trans hF2)))
  go_ret
  refine ⟨?_, hFF⟩
  simp
  try omega

theorem rIn_any {w : World} {r rd cap : Nat} {ext : List Value} {s : HS} (H : RAt w r rd cap ext s) (i : Int) :
    Calls Try.prog 136 #[.pointer (some ⟨r, 0, none⟩), .int .i64 i] w fun e w' => e = .returned (.int .i64 (s.c.inP i)) ∧ Fr [] w w' := by
  have HA := hid (fun W => rAtIn_any H.right i W)
  obtain ⟨z, hz⟩ : ∃ z, z = s.c.inP i := ⟨_, rfl⟩
  rw [← hz] at HA ⊢
  have kR := H.blk.cell
  clear hz
  go_enter Try.func136, Try.ntmps136
  go_wp2_with (first | (go_at_call 76; refine (HA.out _).mono ?_; rintro e w2 ⟨rfl, hF2⟩))
  go_ret
  exact ⟨rfl, hF2⟩



end Go.Proofs.Yteggckdgjecfmaa
