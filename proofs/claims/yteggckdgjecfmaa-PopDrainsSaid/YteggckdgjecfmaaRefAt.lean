/- mudlarkref04.At of a cell's part; mudlarkref07's Field. -/
import Derived.Test.YteggckdgjecfmaaRef03
import Derived.Test.YteggckdgjecfmaaHandNew
namespace Go.Proofs.Yteggckdgjecfmaa
open Go.RowKit
set_option linter.unusedVariables false
set_option linter.unusedSimpArgs false

set_option maxHeartbeats 4000000 in
theorem rAtCell_any {c : Cfg} (hR : c.Right) (p i : Int) (hp : 0 ≤ p ∧ p ≤ 2) (hi : 0 ≤ i ∧ i ≤ 4095) (w : World) :
    Calls Try.prog 76 #[c.val, .agg #[.int .i64 (4 + p), .int .i64 i, .int .i64 0]] w fun e w' => e = .returned (.int .i64 (c.cellP p i)) ∧ Fr [] w w' := by
  have HRt := hid (fun W => rRight_any c W true hR.right)
  have hA := cA_bd hR
  have c1 := hR.c1
  have e1 := hR.c0
  have m0 := hR.m0
  have m1 := hR.m1
  have r0 := hR.r0
  have r1 := hR.r1
  have g0 := hR.g0
  have g1 := hR.g1
  obtain ⟨cc, cm, cr, cg⟩ := c
  simp only [Cfg.cellP, Cfg.cA, pAt] at hA c1 e1 m0 m1 r0 r1 g0 g1 ⊢
  have x0 : 0 ≤ cm * cr := Int.mul_nonneg (by omega) (by omega)
  have hw : IntKind.i64.wrap (cm * cr) = cm * cr := w64 _ (by omega)
  have q : p = 0 ∨ p = 1 ∨ p = 2 := by omega
  clear hp hR
  by_cases hlt : i < cc
  · rw [if_pos ⟨hi.1, hlt⟩]
    rcases q with rfl | rfl | rfl
    · have e4 : (4 : Int) + 0 = 4 := rfl
      rw [e4]
      clear e4
      go_enter Try.func76, Try.ntmps76
      have hB := (Blk.new w [.int .i64 cc, .int .i64 cm, .int .i64 cr, .int .i64 cg] 45).alloc (.cells #[.int .i64 4, .int .i64 i, .int .i64 0] 110)
      have hS := Blk.new (w.alloc (.cells #[.int .i64 cc, .int .i64 cm, .int .i64 cr, .int .i64 cg] 45)) [.int .i64 4, .int .i64 i, .int .i64 0] 110
      rw [World.size_alloc] at hS
      have hFF := ((Fr.refl [] w).alloc (.cells #[.int .i64 cc, .int .i64 cm, .int .i64 cr, .int .i64 cg] 45)).alloc (.cells #[.int .i64 4, .int .i64 i, .int .i64 0] 110)
      have kB := hB.cell
      have kS := hS.cell
      go_wp2_with (first | (go_at_call 127; with_reducible refine (HRt.out _).mono ?_; rintro e w2 ⟨rfl, hF2⟩; (have hB := hB.kept hF2 (by simp)); (have hS := hS.kept hF2 (by simp)); (have kB := hB.cell); (have kS := hS.cell); (have hFF := hFF.trans hF2)))
      go_ret
      refine ⟨?_, hFF⟩
      simp
      try omega
    · have e4 : (4 : Int) + 1 = 5 := rfl
      rw [e4]
      clear e4
      go_enter Try.func76, Try.ntmps76
      have hB := (Blk.new w [.int .i64 cc, .int .i64 cm, .int .i64 cr, .int .i64 cg] 45).alloc (.cells #[.int .i64 5, .int .i64 i, .int .i64 0] 110)
      have hS := Blk.new (w.alloc (.cells #[.int .i64 cc, .int .i64 cm, .int .i64 cr, .int .i64 cg] 45)) [.int .i64 5, .int .i64 i, .int .i64 0] 110
      rw [World.size_alloc] at hS
      have hFF := ((Fr.refl [] w).alloc (.cells #[.int .i64 cc, .int .i64 cm, .int .i64 cr, .int .i64 cg] 45)).alloc (.cells #[.int .i64 5, .int .i64 i, .int .i64 0] 110)
      have kB := hB.cell
      have kS := hS.cell
      go_wp2_with (first | (go_at_call 127; with_reducible refine (HRt.out _).mono ?_; rintro e w2 ⟨rfl, hF2⟩; (have hB := hB.kept hF2 (by simp)); (have hS := hS.kept hF2 (by simp)); (have kB := hB.cell); (have kS := hS.cell); (have hFF := hFF.trans hF2)))
      go_ret
      refine ⟨?_, hFF⟩
      simp
      try omega
    · have e4 : (4 : Int) + 2 = 6 := rfl
      rw [e4]
      clear e4
      go_enter Try.func76, Try.ntmps76
      have hB := (Blk.new w [.int .i64 cc, .int .i64 cm, .int .i64 cr, .int .i64 cg] 45).alloc (.cells #[.int .i64 6, .int .i64 i, .int .i64 0] 110)
      have hS := Blk.new (w.alloc (.cells #[.int .i64 cc, .int .i64 cm, .int .i64 cr, .int .i64 cg] 45)) [.int .i64 6, .int .i64 i, .int .i64 0] 110
      rw [World.size_alloc] at hS
      have hFF := ((Fr.refl [] w).alloc (.cells #[.int .i64 cc, .int .i64 cm, .int .i64 cr, .int .i64 cg] 45)).alloc (.cells #[.int .i64 6, .int .i64 i, .int .i64 0] 110)
      have kB := hB.cell
      have kS := hS.cell
      go_wp2_with (first | (go_at_call 127; with_reducible refine (HRt.out _).mono ?_; rintro e w2 ⟨rfl, hF2⟩; (have hB := hB.kept hF2 (by simp)); (have hS := hS.kept hF2 (by simp)); (have kB := hB.cell); (have kS := hS.cell); (have hFF := hFF.trans hF2)))
      go_ret
      refine ⟨?_, hFF⟩
      simp
      try omega
  · rw [if_neg (by omega)]
    rcases q with rfl | rfl | rfl
    · have e4 : (4 : Int) + 0 = 4 := rfl
      rw [e4]
      clear e4
      go_enter Try.func76, Try.ntmps76
      have hB := (Blk.new w [.int .i64 cc, .int .i64 cm, .int .i64 cr, .int .i64 cg] 45).alloc (.cells #[.int .i64 4, .int .i64 i, .int .i64 0] 110)
      have hS := Blk.new (w.alloc (.cells #[.int .i64 cc, .int .i64 cm, .int .i64 cr, .int .i64 cg] 45)) [.int .i64 4, .int .i64 i, .int .i64 0] 110
      rw [World.size_alloc] at hS
      have hFF := ((Fr.refl [] w).alloc (.cells #[.int .i64 cc, .int .i64 cm, .int .i64 cr, .int .i64 cg] 45)).alloc (.cells #[.int .i64 4, .int .i64 i, .int .i64 0] 110)
      have kB := hB.cell
      have kS := hS.cell
      go_wp2_with (first | (go_at_call 127; with_reducible refine (HRt.out _).mono ?_; rintro e w2 ⟨rfl, hF2⟩; (have hB := hB.kept hF2 (by simp)); (have hS := hS.kept hF2 (by simp)); (have kB := hB.cell); (have kS := hS.cell); (have hFF := hFF.trans hF2)))
      go_ret
      refine ⟨?_, hFF⟩
      simp
      try omega
    · have e4 : (4 : Int) + 1 = 5 := rfl
      rw [e4]
      clear e4
      go_enter Try.func76, Try.ntmps76
      have hB := (Blk.new w [.int .i64 cc, .int .i64 cm, .int .i64 cr, .int .i64 cg] 45).alloc (.cells #[.int .i64 5, .int .i64 i, .int .i64 0] 110)
      have hS := Blk.new (w.alloc (.cells #[.int .i64 cc, .int .i64 cm, .int .i64 cr, .int .i64 cg] 45)) [.int .i64 5, .int .i64 i, .int .i64 0] 110
      rw [World.size_alloc] at hS
      have hFF := ((Fr.refl [] w).alloc (.cells #[.int .i64 cc, .int .i64 cm, .int .i64 cr, .int .i64 cg] 45)).alloc (.cells #[.int .i64 5, .int .i64 i, .int .i64 0] 110)
      have kB := hB.cell
      have kS := hS.cell
      go_wp2_with (first | (go_at_call 127; with_reducible refine (HRt.out _).mono ?_; rintro e w2 ⟨rfl, hF2⟩; (have hB := hB.kept hF2 (by simp)); (have hS := hS.kept hF2 (by simp)); (have kB := hB.cell); (have kS := hS.cell); (have hFF := hFF.trans hF2)))
      go_ret
      refine ⟨?_, hFF⟩
      simp
      try omega
    · have e4 : (4 : Int) + 2 = 6 := rfl
      rw [e4]
      clear e4
      go_enter Try.func76, Try.ntmps76
      have hB := (Blk.new w [.int .i64 cc, .int .i64 cm, .int .i64 cr, .int .i64 cg] 45).alloc (.cells #[.int .i64 6, .int .i64 i, .int .i64 0] 110)
      have hS := Blk.new (w.alloc (.cells #[.int .i64 cc, .int .i64 cm, .int .i64 cr, .int .i64 cg] 45)) [.int .i64 6, .int .i64 i, .int .i64 0] 110
      rw [World.size_alloc] at hS
      have hFF := ((Fr.refl [] w).alloc (.cells #[.int .i64 cc, .int .i64 cm, .int .i64 cr, .int .i64 cg] 45)).alloc (.cells #[.int .i64 6, .int .i64 i, .int .i64 0] 110)
      have kB := hB.cell
      have kS := hS.cell
      go_wp2_with (first | (go_at_call 127; with_reducible refine (HRt.out _).mono ?_; rintro e w2 ⟨rfl, hF2⟩; (have hB := hB.kept hF2 (by simp)); (have hS := hS.kept hF2 (by simp)); (have kB := hB.cell); (have kS := hS.cell); (have hFF := hFF.trans hF2)))
      go_ret
      refine ⟨?_, hFF⟩
      simp
      try omega

theorem rField_any {w : World} {r : Nat} {T : TypeId} {rest : List Value} {c : Cfg} (hR : c.Right) (hB : Blk w r T ([.int .i64 c.cells, .int .i64 c.muts, .int .i64 c.regs, .int .i64 c.globs] ++ rest)) (x p : Int) (h0 : 0 ≤ x) (h1 : x < 18446744073709551616) :
    Calls Try.prog 145 #[.pointer (some ⟨r, 0, none⟩), .int .u64 x, .int .i64 p] w fun e w' => e = .returned (.int .i64 (c.fieldP x p)) ∧ Fr [] w w' := by
  have HI := hid (fun W => rIsCell_any x h0 h1 W)
  have kB := hB.cell
  by_cases hi : isCell x = true
  · have hn := cellN_yes hi
    have hx := (isCell_iff x).1 hi
    by_cases hp : 0 ≤ p ∧ p ≤ 2
    · have HA := hid (fun W => rAtCell_any hR p (x / 2) hp (by omega) W)
      have e : c.fieldP x p = c.cellP p (x / 2) := by simp [Cfg.fieldP, hi, hp]
      rw [e]
      rw [hn] at HI
      have hb : 0 ≤ x / 2 ∧ x / 2 ≤ 4095 := by omega
      have hw4 : IntKind.i64.wrap (4 + p) = 4 + p := w64 _ (by omega)
      obtain ⟨y, hy⟩ : ∃ y, y = x / 2 := ⟨_, rfl⟩
      rw [← hy] at HI HA hb ⊢
      obtain ⟨z, hz⟩ : ∃ z, z = c.cellP p y := ⟨_, rfl⟩
      rw [← hz] at HA ⊢
      obtain ⟨hp1, hp2⟩ := hp
      obtain ⟨hb1, hb2⟩ := hb
      clear hn hx hi hy hz e h0 h1 hR
      obtain ⟨cc, cm, cr, cg⟩ := c
      go_enter Try.func145, Try.ntmps145
      go_wp2_with (first | (go_at_call 57; with_reducible refine (HI.out _).mono ?_; rintro e w2 ⟨rfl, rfl⟩) | (go_at_call 76; with_reducible refine (HA.out _).mono ?_; rintro e w2 ⟨rfl, hF2⟩))
      go_ret
      exact ⟨rfl, hF2⟩
    · have e : c.fieldP x p = -1 := by simp only [Cfg.fieldP]; rw [if_neg (fun h => hp h.2)]
      rw [e]
      rw [hn] at HI
      have hb : 0 ≤ x / 2 ∧ x / 2 ≤ 4095 := by omega
      obtain ⟨y, hy⟩ : ∃ y, y = x / 2 := ⟨_, rfl⟩
      rw [← hy] at HI hb
      obtain ⟨hb1, hb2⟩ := hb
      clear hn hx hi hy e h0 h1 hR
      obtain ⟨cc, cm, cr, cg⟩ := c
      by_cases hp0 : p < 0
      · go_enter Try.func145, Try.ntmps145
        go_wp2_with (first | (go_at_call 57; with_reducible refine (HI.out _).mono ?_; rintro e w2 ⟨rfl, rfl⟩))
        go_ret
        exact ⟨rfl, Fr.refl _ _⟩
      · have hp2 : 2 < p := by omega
        clear hp
        go_enter Try.func145, Try.ntmps145
        go_wp2_with (first | (go_at_call 57; with_reducible refine (HI.out _).mono ?_; rintro e w2 ⟨rfl, rfl⟩))
        go_ret
        exact ⟨rfl, Fr.refl _ _⟩
  · have hi : isCell x = false := by simpa using hi
    have e : c.fieldP x p = -1 := by simp [Cfg.fieldP, hi]
    rw [e]
    rw [cellN_no hi] at HI
    clear hi e h0 h1 hR
    obtain ⟨cc, cm, cr, cg⟩ := c
    go_enter Try.func145, Try.ntmps145
    go_wp2_with (first | (go_at_call 57; with_reducible refine (HI.out _).mono ?_; rintro e w2 ⟨rfl, rfl⟩))
    go_ret
    exact ⟨rfl, Fr.refl _ _⟩

end Go.Proofs.Yteggckdgjecfmaa
