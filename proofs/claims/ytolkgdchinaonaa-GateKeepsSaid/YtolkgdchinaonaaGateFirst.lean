/- gate.firsts, gate.First, gate.Begin. -/
import Derived.Test.YtolkgdchinaonaaPlain
import Derived.Test.YtolkgdchinaonaaMapI
import Derived.Test.YtolkgdchinaonaaArena
namespace Go.Proofs.Ytolkgdchinaonaa
open Go.RowKit
set_option linter.unusedVariables false
set_option linter.unusedSimpArgs false

def firstsL : List (Int × Value) := [(1, .int .i64 10), (2, .int .i64 11), (3, .int .i64 30), (4, .int .i64 13), (5, .int .i64 13), (6, .int .i64 16), (7, .int .i64 16), (8, .int .i64 19), (9, .int .i64 20), (10, .int .i64 22), (11, .int .i64 24)]
theorem firsts_get (k : Int) : (mget firstsL k = some (.int .i64 (gFirst k))) ∨ (mget firstsL k = none ∧ gFirst k = 90) := by
  by_cases h : 1 ≤ k ∧ k ≤ 11
  · left
    have : k = 1 ∨ k = 2 ∨ k = 3 ∨ k = 4 ∨ k = 5 ∨ k = 6 ∨ k = 7 ∨ k = 8 ∨ k = 9 ∨ k = 10 ∨ k = 11 := by omega
    rcases this with rfl | rfl | rfl | rfl | rfl | rfl | rfl | rfl | rfl | rfl | rfl <;> rfl
  · right
    constructor
    · simp only [firstsL, mget]
      repeat rw [if_neg (by omega)]
    · unfold gFirst
      repeat rw [if_neg (by omega)]
theorem firsts_any (w : World) : Calls Try.prog 179 #[] w fun e w' => (∃ r, e = .returned (.map (some r)) ∧ MapAt w' r firstsL ∧ w.heap.size ≤ r) ∧ Fr [] w w' := by
  have hmm := @run_makeMap Try.prog
  have hM0 := MapAt.made w
  obtain ⟨w1, hr1, hM1, hF1⟩ := run_put (P := Try.prog) Try.underlying169 Try.underlying3 hM0 1 (.int .i64 10)
  obtain ⟨w2, hr2, hM2, hF2⟩ := run_put (P := Try.prog) Try.underlying169 Try.underlying3 hM1 2 (.int .i64 11)
  obtain ⟨w3, hr3, hM3, hF3⟩ := run_put (P := Try.prog) Try.underlying169 Try.underlying3 hM2 3 (.int .i64 30)
  obtain ⟨w4, hr4, hM4, hF4⟩ := run_put (P := Try.prog) Try.underlying169 Try.underlying3 hM3 4 (.int .i64 13)
  obtain ⟨w5, hr5, hM5, hF5⟩ := run_put (P := Try.prog) Try.underlying169 Try.underlying3 hM4 5 (.int .i64 13)
  obtain ⟨w6, hr6, hM6, hF6⟩ := run_put (P := Try.prog) Try.underlying169 Try.underlying3 hM5 6 (.int .i64 16)
  obtain ⟨w7, hr7, hM7, hF7⟩ := run_put (P := Try.prog) Try.underlying169 Try.underlying3 hM6 7 (.int .i64 16)
  obtain ⟨w8, hr8, hM8, hF8⟩ := run_put (P := Try.prog) Try.underlying169 Try.underlying3 hM7 8 (.int .i64 19)
  obtain ⟨w9, hr9, hM9, hF9⟩ := run_put (P := Try.prog) Try.underlying169 Try.underlying3 hM8 9 (.int .i64 20)
  obtain ⟨w10, hr10, hM10, hF10⟩ := run_put (P := Try.prog) Try.underlying169 Try.underlying3 hM9 10 (.int .i64 22)
  obtain ⟨w11, hr11, hM11, hF11⟩ := run_put (P := Try.prog) Try.underlying169 Try.underlying3 hM10 11 (.int .i64 24)
  have hF := (Fr.refl [] w).alloc (.map #[] 0)
  replace hF := hF.trans_new hF1 (by simp; try omega)
  replace hF := hF.trans_new hF2 (by simp; try omega)
  replace hF := hF.trans_new hF3 (by simp; try omega)
  replace hF := hF.trans_new hF4 (by simp; try omega)
  replace hF := hF.trans_new hF5 (by simp; try omega)
  replace hF := hF.trans_new hF6 (by simp; try omega)
  replace hF := hF.trans_new hF7 (by simp; try omega)
  replace hF := hF.trans_new hF8 (by simp; try omega)
  replace hF := hF.trans_new hF9 (by simp; try omega)
  replace hF := hF.trans_new hF10 (by simp; try omega)
  replace hF := hF.trans_new hF11 (by simp; try omega)
  have hE : MapAt w11 w.heap.size firstsL := hM11
  go_enter Try.func179, Try.ntmps179
  go_wp2
  go_ret
  exact ⟨⟨_, rfl, hE, Nat.le_refl _⟩, hF⟩
theorem first_any (k : Int) (w : World) : Calls Try.prog 131 #[.int .i64 k] w fun e w' => e = .returned (.int .i64 (gFirst k)) ∧ Fr [] w w' := by
  have HL := fun (W : World) (r : Nat) (h : MapAt W r firstsL) => run_look_ok (P := Try.prog) Try.underlying169 Try.underlying3 h k (.int .i64 0) (by kernel_rfl)
  rcases firsts_get k with hg | ⟨hg, h9⟩
  · rw [hg] at HL
    simp only [Option.getD_some, Option.isSome_some] at HL
    obtain ⟨z, hz⟩ : ∃ z, z = gFirst k := ⟨_, rfl⟩
    rw [← hz] at HL ⊢
    clear hz hg
    replace HL := hid HL
    go_enter Try.func131, Try.ntmps131
    go_wp2_with (first | (go_at_call 179; refine (firsts_any _).mono ?_; rintro e w2 ⟨⟨r, rfl, hM, _⟩, hF⟩; (have hl := HL.out _ _ hM)))
    go_ret
    exact ⟨rfl, hF⟩
  · rw [hg] at HL
    simp only [Option.getD_none, Option.isSome_none] at HL
    rw [h9]
    clear hg h9
    replace HL := hid HL
    go_enter Try.func131, Try.ntmps131
    go_wp2_with (first | (go_at_call 179; refine (firsts_any _).mono ?_; rintro e w2 ⟨⟨r, rfl, hM, _⟩, hF⟩; (have hl := HL.out _ _ hM)))
    go_ret
    exact ⟨rfl, hF⟩

end Go.Proofs.Ytolkgdchinaonaa
