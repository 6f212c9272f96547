/- Package place: where each word lies, of a right configuration. -/
import Derived.Test.YtnhnbgkhbhgifaaPlain
import Derived.Test.YtnhnbgkhbhgifaaConfig
namespace Go.Proofs.Ytnhnbgkhbhgifaa
open Go.RowKit
set_option linter.unusedVariables false
set_option linter.unusedSimpArgs false


theorem Cfg.Right.right {c : Cfg} (h : c.Right) : c.right = true := (c.right_iff).2 h

theorem place_new (c : Cfg) (w : World) (r : Bool) (hr : c.right = r) :
    Calls Try.prog 98 #[c.val] w fun e w' => e = .returned (.tuple #[(if r then c else ⟨0, 0, 0, 0⟩ : Cfg).val, .int .i64 (if r then 0 else 2)]) ∧ Fr [] w w' := by
  have HC := hid (fun W => check_any c W r hr)
  clear hr
  obtain ⟨cc, cm, cr, cg⟩ := c
  cases r
  · go_enter Try.func98, Try.ntmps98
    go_wp2_with fail
    refine (HC.out _).mono ?_
    rintro e w' ⟨rfl, hF⟩
    have hB := (Blk.new _ _ _).kept hF (by simp)
    simp only [World.size_alloc] at hB
    have kc := hB.cell
    have kf := hB.free
    go_wp2
    have k2 := ((((hB.set 0 (.int .i64 0)).set 1 (.int .i64 0)).set 2 (.int .i64 0)).set 3 (.int .i64 0)).cell
    simp only [List.set_cons_zero, List.set_cons_succ] at k2
    exact bodyPost_ret (v := .tuple #[.agg #[.int .i64 0, .int .i64 0, .int .i64 0, .int .i64 0], .int .i64 2]) (by simp [results, Try.results98, go_sem, k2]) rfl ⟨rfl, (((((((Fr.refl _ _).alloc _).alloc _).trans hF).setCell (by simp) _).setCell (by simp) _).setCell (by simp) _).setCell (by simp) _⟩
  · go_enter Try.func98, Try.ntmps98
    go_wp2_with fail
    refine (HC.out _).mono ?_
    rintro e w' ⟨rfl, hF⟩
    have hB := (Blk.new _ _ _).kept hF (by simp)
    have hA := ((Blk.new _ _ _).alloc _).kept hF (by simp)
    simp only [World.size_alloc] at hB
    have kc := hB.cell
    have kf := hB.free
    have ka := hA.cell
    go_wp2
    have k2 := ((((hB.set 0 (.int .i64 cc)).set 1 (.int .i64 cm)).set 2 (.int .i64 cr)).set 3 (.int .i64 cg)).cell
    simp only [List.set_cons_zero, List.set_cons_succ] at k2
    exact bodyPost_ret (v := .tuple #[.agg #[.int .i64 cc, .int .i64 cm, .int .i64 cr, .int .i64 cg], .int .i64 0]) (by simp [results, Try.results98, go_sem, k2]) rfl ⟨rfl, (((((((Fr.refl _ _).alloc _).alloc _).trans hF).setCell (by simp) _).setCell (by simp) _).setCell (by simp) _).setCell (by simp) _⟩

theorem size_any {c : Cfg} (hR : c.Right) (w : World) :
    Calls Try.prog 99 #[c.val] w fun e w' => e = .returned (.int .i64 c.words) ∧ Fr [] w w' := by
  have HC := hid (fun W => words_any c W true hR.right)
  obtain ⟨z, hz⟩ : ∃ z, z = c.words := ⟨_, rfl⟩
  rw [← hz] at HC ⊢
  clear hz
  obtain ⟨cc, cm, cr, cg⟩ := c
  go_enter Try.func99, Try.ntmps99
  go_wp2_with fail
  refine (HC.out _).mono ?_
  rintro e w' ⟨rfl, hF⟩
  go_wp2
  go_ret
  exact ⟨rfl, ((Fr.refl _ _).alloc _).trans hF⟩

theorem Cfg.Right.words_pos {c : Cfg} (h : c.Right) : 13 ≤ c.words ∧ c.words ≤ 20000 := by
  have h1 := h.mr
  obtain ⟨R1, R2, R3, R4, R5, R6, R7, R8⟩ := h
  simp only [Cfg.words, Cfg.roots]; omega

theorem pat_any {c : Cfg} (hR : c.Right) (fr i many a : Int) (hf : 0 ≤ fr ∧ fr ≤ 100000) (hi : 0 ≤ i → i < many → 0 ≤ i * a ∧ i * a ≤ 100000) (w : World) :
    Calls Try.prog 149 #[c.val, .int .i64 fr, .int .i64 i, .int .i64 many, .int .i64 a] w fun e w' => e = .returned (.int .i64 (pAt fr i many a)) ∧ Fr [] w w' := by
  have HC := hid (fun W => size_any hR W)
  have hw := hR.words_pos
  obtain ⟨z, hz⟩ : ∃ z, z = c.words := ⟨_, rfl⟩
  rw [← hz] at HC hw
  clear hz
  have hz0 : (z == 0) = false := beq_eq_false_iff_ne.2 (by omega)
  clear hw
  obtain ⟨cc, cm, cr, cg⟩ := c
  unfold pAt
  by_cases h0 : 0 ≤ i
  · by_cases h1 : i < many
    · rw [if_pos ⟨h0, h1⟩]
      have hp := hi h0 h1
      clear hi
      go_enter Try.func149, Try.ntmps149
      go_wp2_with fail
      refine (HC.out _).mono ?_
      rintro e w' ⟨rfl, hF⟩
      go_wp2
      go_ret
      exact ⟨rfl, ((Fr.refl _ _).alloc _).trans hF⟩
    · rw [if_neg (by omega)]
      clear hi
      go_enter Try.func149, Try.ntmps149
      go_wp2_with fail
      refine (HC.out _).mono ?_
      rintro e w' ⟨rfl, hF⟩
      go_wp2
      go_ret
      exact ⟨rfl, ((Fr.refl _ _).alloc _).trans hF⟩
  · rw [if_neg (by omega)]
    clear hi
    go_enter Try.func149, Try.ntmps149
    go_wp2_with fail
    refine (HC.out _).mono ?_
    rintro e w' ⟨rfl, hF⟩
    go_wp2
    go_ret
    exact ⟨rfl, ((Fr.refl _ _).alloc _).trans hF⟩

theorem globs_any {c : Cfg} (hR : c.Right) (w : World) :
    Calls Try.prog 158 #[c.val] w fun e w' => e = .returned (.int .i64 c.gA) ∧ Fr [] w w' := by
  have h1 := hR.m0; have h2 := hR.m1
  obtain ⟨cc, cm, cr, cg⟩ := c
  simp only at h1 h2
  go_enter Try.func158, Try.ntmps158
  go_wp2
  go_ret
  exact ⟨rfl, (Fr.refl _ _).alloc _⟩

theorem regs_any {c : Cfg} (hR : c.Right) (w : World) :
    Calls Try.prog 159 #[c.val] w fun e w' => e = .returned (.int .i64 c.rA) ∧ Fr [] w w' := by
  have HC := hid (fun W => globs_any hR W)
  have h1 := hR.m0; have h2 := hR.m1; have h3 := hR.g0; have h4 := hR.g1
  obtain ⟨z, hz⟩ : ∃ z, z = c.gA := ⟨_, rfl⟩
  have hz1 : 6 ≤ z ∧ z ≤ 68 := by rw [hz]; simp only [Cfg.gA]; omega
  have HW : Hid (c.rA = z + c.globs) := by rw [hz]; rfl
  rw [← hz] at HC
  clear hz
  obtain ⟨cc, cm, cr, cg⟩ := c
  simp only at h1 h2 h3 h4
  go_enter Try.func159, Try.ntmps159
  go_wp2_with fail
  go_region_held3 (fun w' => w'.cell? ⟨w.heap.size, 0, none⟩ = some (.int .i64 cc) ∧ w'.cell? ⟨w.heap.size, 1, none⟩ = some (.int .i64 cm) ∧ w'.cell? ⟨w.heap.size, 2, none⟩ = some (.int .i64 cr) ∧ w'.cell? ⟨w.heap.size, 3, none⟩ = some (.int .i64 cg)) (go_keep)
    (first | (go_at_call 158; refine (HC.out _).mono ?_; rintro e w2 ⟨rfl, hF2⟩; have k := ((Blk.new w [.int .i64 cc, .int .i64 cm, .int .i64 cr, .int .i64 cg] 73).drew.kept hF2 (by simp)).cell))
  go_wp2
  go_ret
  refine ⟨?_, (((Fr.refl _ _).alloc _).drew).trans ‹_›⟩
  rw [HW.out]
  show Ending.returned (.int .i64 (IntKind.i64.wrap _)) = Ending.returned (.int .i64 _)
  rw [w64 _ (by omega)]

theorem cells_any {c : Cfg} (hR : c.Right) (w : World) :
    Calls Try.prog 150 #[c.val] w fun e w' => e = .returned (.int .i64 c.cA) ∧ Fr [] w w' := by
  have HC := hid (fun W => regs_any hR W)
  have h1 := hR.m0; have h2 := hR.m1; have h3 := hR.g0; have h4 := hR.g1; have h5 := hR.mr
  obtain ⟨z, hz⟩ : ∃ z, z = c.rA := ⟨_, rfl⟩
  have hz1 : 6 ≤ z ∧ z ≤ 132 := by rw [hz]; simp only [Cfg.rA]; omega
  have HW : Hid (c.cA = z + c.muts * c.regs) := by rw [hz]; rfl
  rw [← hz] at HC
  clear hz
  obtain ⟨cc, cm, cr, cg⟩ := c
  simp only at h1 h2 h3 h4 h5
  go_enter Try.func150, Try.ntmps150
  go_wp2_with fail
  go_region_held3 (fun w' => w'.cell? ⟨w.heap.size, 0, none⟩ = some (.int .i64 cc) ∧ w'.cell? ⟨w.heap.size, 1, none⟩ = some (.int .i64 cm) ∧ w'.cell? ⟨w.heap.size, 2, none⟩ = some (.int .i64 cr) ∧ w'.cell? ⟨w.heap.size, 3, none⟩ = some (.int .i64 cg)) (go_keep)
    (first | (go_at_call 159; refine (HC.out _).mono ?_; rintro e w2 ⟨rfl, hF2⟩; have k := ((Blk.new w [.int .i64 cc, .int .i64 cm, .int .i64 cr, .int .i64 cg] 73).drew.kept hF2 (by simp)).cell))
  go_wp2
  go_ret
  refine ⟨?_, (((Fr.refl _ _).alloc _).drew).trans ‹_›⟩
  rw [HW.out]
  show Ending.returned (.int .i64 (IntKind.i64.wrap (_ + IntKind.i64.wrap _))) = Ending.returned (.int .i64 _)
  rw [w64 (cm * cr) (by omega), w64 _ (by omega)]

theorem in_any {c : Cfg} (hR : c.Right) (i : Int) (w : World) :
    Calls Try.prog 177 #[c.val, .int .i64 i] w fun e w' => e = .returned (.int .i64 (c.inP i)) ∧ Fr [] w w' := by
  have h1 := hR.m0; have h2 := hR.m1
  have HC := hid (fun W => pat_any hR 5 i c.muts 1 (by omega) (by omega) W)
  unfold Cfg.inP
  obtain ⟨z, hz⟩ : ∃ z, z = pAt 5 i c.muts 1 := ⟨_, rfl⟩
  rw [← hz] at HC ⊢
  clear hz
  obtain ⟨cc, cm, cr, cg⟩ := c
  go_enter Try.func177, Try.ntmps177
  go_wp2_with fail
  refine (HC.out _).mono ?_
  rintro e w' ⟨rfl, hF⟩
  go_wp2
  go_ret
  exact ⟨rfl, ((Fr.refl _ _).alloc _).trans hF⟩

theorem cA_bd {c : Cfg} (hR : c.Right) : 6 ≤ c.cA ∧ c.cA ≤ 5000 := by
  have h1 := hR.mr
  obtain ⟨R1, R2, R3, R4, R5, R6, R7, R8⟩ := hR
  simp only [Cfg.cA]; omega

theorem car_any {c : Cfg} (hR : c.Right) (i : Int) (w : World) :
    Calls Try.prog 106 #[c.val, .int .i64 i] w fun e w' => e = .returned (.int .i64 (c.cellP 0 i)) ∧ Fr [] w w' := by
  have HA := hid (fun W => cells_any hR W)
  have hz1 := cA_bd hR
  have h1 := hR.c0; have h2 := hR.c1
  have HC := hid (fun W => pat_any hR (c.cA + 0) i c.cells 3 (by omega) (by omega) W)
  unfold Cfg.cellP
  obtain ⟨z, hz⟩ : ∃ z, z = c.cA := ⟨_, rfl⟩
  rw [← hz] at HA HC hz1 ⊢
  clear hz
  obtain ⟨y, hy⟩ : ∃ y, y = pAt (z + 0) i c.cells 3 := ⟨_, rfl⟩
  rw [← hy] at HC ⊢
  clear hy
  rw [Int.add_zero] at HC
  obtain ⟨cc, cm, cr, cg⟩ := c
  go_enter Try.func106, Try.ntmps106
  go_wp2_with fail
  go_region_held3 (fun w' => w'.cell? ⟨w.heap.size, 0, none⟩ = some (.int .i64 cc) ∧ w'.cell? ⟨w.heap.size, 1, none⟩ = some (.int .i64 cm) ∧ w'.cell? ⟨w.heap.size, 2, none⟩ = some (.int .i64 cr) ∧ w'.cell? ⟨w.heap.size, 3, none⟩ = some (.int .i64 cg)) (go_keep)
    (first | (go_at_call 150; refine (HA.out _).mono ?_; rintro e w2 ⟨rfl, hF2⟩; (have hB2 := (Blk.new w [.int .i64 cc, .int .i64 cm, .int .i64 cr, .int .i64 cg] 73).drew.kept hF2 (by simp)); (have k := hB2.cell)) | (go_at_call 149; refine (HC.out _).mono ?_; rintro e w3 ⟨rfl, hF3⟩; (have hB3 := hB2.kept hF3 (by simp)); (have k3 := hB3.cell)))
  go_wp2
  go_ret
  exact ⟨rfl, ((((Fr.refl _ _).alloc _).drew).trans hF2).trans hF3⟩

theorem cdr_any {c : Cfg} (hR : c.Right) (i : Int) (w : World) :
    Calls Try.prog 104 #[c.val, .int .i64 i] w fun e w' => e = .returned (.int .i64 (c.cellP 1 i)) ∧ Fr [] w w' := by
  have HA := hid (fun W => cells_any hR W)
  have hz1 := cA_bd hR
  have h1 := hR.c0; have h2 := hR.c1
  have HC := hid (fun W => pat_any hR (c.cA + 1) i c.cells 3 (by omega) (by omega) W)
  unfold Cfg.cellP
  obtain ⟨z, hz⟩ : ∃ z, z = c.cA := ⟨_, rfl⟩
  rw [← hz] at HA HC hz1 ⊢
  clear hz
  obtain ⟨y, hy⟩ : ∃ y, y = pAt (z + 1) i c.cells 3 := ⟨_, rfl⟩
  rw [← hy] at HC ⊢
  clear hy
  have e1 : IntKind.i64.wrap (z + 1) = z + 1 := w64 _ (by omega)
  obtain ⟨cc, cm, cr, cg⟩ := c
  go_enter Try.func104, Try.ntmps104
  go_wp2_with fail
  go_region_held3 (fun w' => w'.cell? ⟨w.heap.size, 0, none⟩ = some (.int .i64 cc) ∧ w'.cell? ⟨w.heap.size, 1, none⟩ = some (.int .i64 cm) ∧ w'.cell? ⟨w.heap.size, 2, none⟩ = some (.int .i64 cr) ∧ w'.cell? ⟨w.heap.size, 3, none⟩ = some (.int .i64 cg)) (go_keep)
    (first | (go_at_call 150; refine (HA.out _).mono ?_; rintro e w2 ⟨rfl, hF2⟩; (have hB2 := (Blk.new w [.int .i64 cc, .int .i64 cm, .int .i64 cr, .int .i64 cg] 73).drew.kept hF2 (by simp)); (have k := hB2.cell)) | (go_at_call 149; refine (HC.out _).mono ?_; rintro e w3 ⟨rfl, hF3⟩; (have hB3 := hB2.kept hF3 (by simp)); (have k3 := hB3.cell)))
  go_wp2
  go_ret
  exact ⟨rfl, ((((Fr.refl _ _).alloc _).drew).trans hF2).trans hF3⟩

theorem colour_any {c : Cfg} (hR : c.Right) (i : Int) (w : World) :
    Calls Try.prog 105 #[c.val, .int .i64 i] w fun e w' => e = .returned (.int .i64 (c.cellP 2 i)) ∧ Fr [] w w' := by
  have HA := hid (fun W => cells_any hR W)
  have hz1 := cA_bd hR
  have h1 := hR.c0; have h2 := hR.c1
  have HC := hid (fun W => pat_any hR (c.cA + 2) i c.cells 3 (by omega) (by omega) W)
  unfold Cfg.cellP
  obtain ⟨z, hz⟩ : ∃ z, z = c.cA := ⟨_, rfl⟩
  rw [← hz] at HA HC hz1 ⊢
  clear hz
  obtain ⟨y, hy⟩ : ∃ y, y = pAt (z + 2) i c.cells 3 := ⟨_, rfl⟩
  rw [← hy] at HC ⊢
  clear hy
  have e1 : IntKind.i64.wrap (z + 2) = z + 2 := w64 _ (by omega)
  obtain ⟨cc, cm, cr, cg⟩ := c
  go_enter Try.func105, Try.ntmps105
  go_wp2_with fail
  go_region_held3 (fun w' => w'.cell? ⟨w.heap.size, 0, none⟩ = some (.int .i64 cc) ∧ w'.cell? ⟨w.heap.size, 1, none⟩ = some (.int .i64 cm) ∧ w'.cell? ⟨w.heap.size, 2, none⟩ = some (.int .i64 cr) ∧ w'.cell? ⟨w.heap.size, 3, none⟩ = some (.int .i64 cg)) (go_keep)
    (first | (go_at_call 150; refine (HA.out _).mono ?_; rintro e w2 ⟨rfl, hF2⟩; (have hB2 := (Blk.new w [.int .i64 cc, .int .i64 cm, .int .i64 cr, .int .i64 cg] 73).drew.kept hF2 (by simp)); (have k := hB2.cell)) | (go_at_call 149; refine (HC.out _).mono ?_; rintro e w3 ⟨rfl, hF3⟩; (have hB3 := hB2.kept hF3 (by simp)); (have k3 := hB3.cell)))
  go_wp2
  go_ret
  exact ⟨rfl, ((((Fr.refl _ _).alloc _).drew).trans hF2).trans hF3⟩

theorem glob_any {c : Cfg} (hR : c.Right) (i : Int) (w : World) :
    Calls Try.prog 123 #[c.val, .int .i64 i] w fun e w' => e = .returned (.int .i64 (c.globP i)) ∧ Fr [] w w' := by
  have HA := hid (fun W => globs_any hR W)
  have hz1 : 6 ≤ c.gA ∧ c.gA ≤ 68 := by have h1 := hR.m0; have h2 := hR.m1; simp only [Cfg.gA]; omega
  have h1 := hR.g0; have h2 := hR.g1
  have HC := hid (fun W => pat_any hR c.gA i c.globs 1 (by omega) (by omega) W)
  unfold Cfg.globP
  obtain ⟨z, hz⟩ : ∃ z, z = c.gA := ⟨_, rfl⟩
  rw [← hz] at HA HC hz1 ⊢
  clear hz
  obtain ⟨y, hy⟩ : ∃ y, y = pAt z i c.globs 1 := ⟨_, rfl⟩
  rw [← hy] at HC ⊢
  clear hy
  obtain ⟨cc, cm, cr, cg⟩ := c
  go_enter Try.func123, Try.ntmps123
  go_wp2_with fail
  go_region_held3 (fun w' => w'.cell? ⟨w.heap.size, 0, none⟩ = some (.int .i64 cc) ∧ w'.cell? ⟨w.heap.size, 1, none⟩ = some (.int .i64 cm) ∧ w'.cell? ⟨w.heap.size, 2, none⟩ = some (.int .i64 cr) ∧ w'.cell? ⟨w.heap.size, 3, none⟩ = some (.int .i64 cg)) (go_keep)
    (first | (go_at_call 158; refine (HA.out _).mono ?_; rintro e w2 ⟨rfl, hF2⟩; (have hB2 := (Blk.new w [.int .i64 cc, .int .i64 cm, .int .i64 cr, .int .i64 cg] 73).drew.kept hF2 (by simp)); (have k := hB2.cell)) | (go_at_call 149; refine (HC.out _).mono ?_; rintro e w3 ⟨rfl, hF3⟩; (have hB3 := hB2.kept hF3 (by simp)); (have k3 := hB3.cell)))
  go_wp2
  go_ret
  exact ⟨rfl, ((((Fr.refl _ _).alloc _).drew).trans hF2).trans hF3⟩

theorem reg_any {c : Cfg} (hR : c.Right) (m r : Int) (w : World) :
    Calls Try.prog 124 #[c.val, .int .i64 m, .int .i64 r] w fun e w' => e = .returned (.int .i64 (c.regP m r)) ∧ Fr [] w w' := by
  by_cases hm : 0 ≤ m ∧ m < c.muts
  · obtain ⟨m0, m1⟩ := hm
    have HA := hid (fun W => regs_any hR W)
    have hz1 : 6 ≤ c.rA ∧ c.rA ≤ 132 := by have h1 := hR.m0; have h2 := hR.m1; have h3 := hR.g0; have h4 := hR.g1; simp only [Cfg.rA]; omega
    have h1 := hR.r0; have h2 := hR.r1; have h4 := hR.m1
    have hp : 0 ≤ m * c.regs ∧ m * c.regs ≤ 4032 := by
      have a1 : 0 ≤ m * c.regs := Int.mul_nonneg m0 (by omega)
      have a2 : m * c.regs ≤ 63 * 64 := Int.mul_le_mul (by omega) h2 (by omega) (by omega)
      omega
    have HC := hid (fun W => pat_any hR (c.rA + m * c.regs) r c.regs 1 (by omega) (by omega) W)
    have HP : Hid (c.regP m r = pAt (c.rA + m * c.regs) r c.regs 1) := by unfold Cfg.regP; rw [if_pos ⟨m0, m1⟩]; exact rfl
    rw [HP.out]
    obtain ⟨z, hz⟩ : ∃ z, z = c.rA := ⟨_, rfl⟩
    rw [← hz] at HA HC hz1 ⊢
    clear hz HP
    obtain ⟨y, hy⟩ : ∃ y, y = pAt (z + m * c.regs) r c.regs 1 := ⟨_, rfl⟩
    rw [← hy] at HC ⊢
    clear hy
    have e1 : IntKind.i64.wrap (m * c.regs) = m * c.regs := w64 _ (by omega)
    have e2 : IntKind.i64.wrap (z + m * c.regs) = z + m * c.regs := w64 _ (by omega)
    obtain ⟨cc, cm, cr, cg⟩ := c
    simp only at e1 e2 m1 h1 h2 h4 hp
    go_enter Try.func124, Try.ntmps124
    go_wp2_with fail
    go_region_held3 (fun w' => w'.cell? ⟨w.heap.size, 0, none⟩ = some (.int .i64 cc) ∧ w'.cell? ⟨w.heap.size, 1, none⟩ = some (.int .i64 cm) ∧ w'.cell? ⟨w.heap.size, 2, none⟩ = some (.int .i64 cr) ∧ w'.cell? ⟨w.heap.size, 3, none⟩ = some (.int .i64 cg)) (go_keep)
      (first | (go_at_call 159; refine (HA.out _).mono ?_; rintro e w2 ⟨rfl, hF2⟩; (have hB2 := (Blk.new w [.int .i64 cc, .int .i64 cm, .int .i64 cr, .int .i64 cg] 73).drew.kept hF2 (by simp)); (have k := hB2.cell)) | (go_at_call 149; refine (HC.out _).mono ?_; rintro e w3 ⟨rfl, hF3⟩; (have hB3 := hB2.kept hF3 (by simp)); (have k3 := hB3.cell)))
    go_wp2
    go_ret
    exact ⟨rfl, ((((Fr.refl _ _).alloc _).drew).trans hF2).trans hF3⟩
  · have HP : Hid (c.regP m r = -1) := by unfold Cfg.regP; rw [if_neg hm]; exact rfl
    rw [HP.out]
    clear HP
    obtain ⟨cc, cm, cr, cg⟩ := c
    simp only at hm
    by_cases h0 : m < 0
    · clear hm
      go_enter Try.func124, Try.ntmps124
      go_wp2
      go_ret
      exact ⟨rfl, (Fr.refl _ _).alloc _⟩
    · have h1 : cm ≤ m := by omega
      clear hm
      go_enter Try.func124, Try.ntmps124
      go_wp2
      go_ret
      exact ⟨rfl, (Fr.refl _ _).alloc _⟩

end Go.Proofs.Ytnhnbgkhbhgifaa
