/- lisp.lines: the map of a mutator's own lines. -/
import Derived.Test.YtolkgdchinaonaaPlain
import Derived.Test.YtolkgdchinaonaaMapI
import Derived.Test.YtolkgdchinaonaaArena
namespace Go.Proofs.Ytolkgdchinaonaa
open Go.RowKit
set_option linter.unusedVariables false
set_option linter.unusedSimpArgs false

def linesL : List (Int × Value) := [(10, .func (.func 205) #[] #[]), (11, .func (.func 208) #[] #[]), (12, .func (.func 209) #[] #[]), (13, .func (.func 211) #[] #[]), (14, .func (.func 213) #[] #[]), (15, .func (.func 215) #[] #[]), (16, .func (.func 216) #[] #[]), (17, .func (.func 217) #[] #[]), (18, .func (.func 218) #[] #[]), (19, .func (.func 219) #[] #[]), (20, .func (.func 220) #[] #[]), (21, .func (.func 221) #[] #[]), (22, .func (.func 222) #[] #[]), (23, .func (.func 223) #[] #[]), (24, .func (.func 225) #[] #[]), (30, .func (.func 226) #[] #[]), (31, .func (.func 227) #[] #[]), (38, .func (.func 228) #[] #[]), (39, .func (.func 229) #[] #[]), (40, .func (.func 230) #[] #[])]
theorem lines_none (k : Int) (h : k ≠ 10 ∧ k ≠ 11 ∧ k ≠ 12 ∧ k ≠ 13 ∧ k ≠ 14 ∧ k ≠ 15 ∧ k ≠ 16 ∧ k ≠ 17 ∧ k ≠ 18 ∧ k ≠ 19 ∧ k ≠ 20 ∧ k ≠ 21 ∧ k ≠ 22 ∧ k ≠ 23 ∧ k ≠ 24 ∧ k ≠ 30 ∧ k ≠ 31 ∧ k ≠ 38 ∧ k ≠ 39 ∧ k ≠ 40) : mget linesL k = none := by
  simp only [linesL, mget]
  repeat rw [if_neg (by omega)]
set_option maxRecDepth 100000 in
set_option maxHeartbeats 4000000 in
theorem lines_any (w : World) : Calls Try.prog 188 #[] w fun e w' => (∃ r, e = .returned (.map (some r)) ∧ MapAt w' r linesL ∧ w.heap.size ≤ r) ∧ Fr [] w w' := by
  have hmm := @run_makeMap Try.prog
  have hM0 := MapAt.made w
  obtain ⟨w1, hr1, hM1, hF1⟩ := run_put (P := Try.prog) Try.underlying247 Try.underlying3 hM0 10 (.func (.func 205) #[] #[])
  obtain ⟨w2, hr2, hM2, hF2⟩ := run_put (P := Try.prog) Try.underlying247 Try.underlying3 hM1 11 (.func (.func 208) #[] #[])
  obtain ⟨w3, hr3, hM3, hF3⟩ := run_put (P := Try.prog) Try.underlying247 Try.underlying3 hM2 12 (.func (.func 209) #[] #[])
  obtain ⟨w4, hr4, hM4, hF4⟩ := run_put (P := Try.prog) Try.underlying247 Try.underlying3 hM3 13 (.func (.func 211) #[] #[])
  obtain ⟨w5, hr5, hM5, hF5⟩ := run_put (P := Try.prog) Try.underlying247 Try.underlying3 hM4 14 (.func (.func 213) #[] #[])
  obtain ⟨w6, hr6, hM6, hF6⟩ := run_put (P := Try.prog) Try.underlying247 Try.underlying3 hM5 15 (.func (.func 215) #[] #[])
  obtain ⟨w7, hr7, hM7, hF7⟩ := run_put (P := Try.prog) Try.underlying247 Try.underlying3 hM6 16 (.func (.func 216) #[] #[])
  obtain ⟨w8, hr8, hM8, hF8⟩ := run_put (P := Try.prog) Try.underlying247 Try.underlying3 hM7 17 (.func (.func 217) #[] #[])
  obtain ⟨w9, hr9, hM9, hF9⟩ := run_put (P := Try.prog) Try.underlying247 Try.underlying3 hM8 18 (.func (.func 218) #[] #[])
  obtain ⟨w10, hr10, hM10, hF10⟩ := run_put (P := Try.prog) Try.underlying247 Try.underlying3 hM9 19 (.func (.func 219) #[] #[])
  obtain ⟨w11, hr11, hM11, hF11⟩ := run_put (P := Try.prog) Try.underlying247 Try.underlying3 hM10 20 (.func (.func 220) #[] #[])
  obtain ⟨w12, hr12, hM12, hF12⟩ := run_put (P := Try.prog) Try.underlying247 Try.underlying3 hM11 21 (.func (.func 221) #[] #[])
  obtain ⟨w13, hr13, hM13, hF13⟩ := run_put (P := Try.prog) Try.underlying247 Try.underlying3 hM12 22 (.func (.func 222) #[] #[])
  obtain ⟨w14, hr14, hM14, hF14⟩ := run_put (P := Try.prog) Try.underlying247 Try.underlying3 hM13 23 (.func (.func 223) #[] #[])
  obtain ⟨w15, hr15, hM15, hF15⟩ := run_put (P := Try.prog) Try.underlying247 Try.underlying3 hM14 24 (.func (.func 225) #[] #[])
  obtain ⟨w16, hr16, hM16, hF16⟩ := run_put (P := Try.prog) Try.underlying247 Try.underlying3 hM15 30 (.func (.func 226) #[] #[])
  obtain ⟨w17, hr17, hM17, hF17⟩ := run_put (P := Try.prog) Try.underlying247 Try.underlying3 hM16 31 (.func (.func 227) #[] #[])
  obtain ⟨w18, hr18, hM18, hF18⟩ := run_put (P := Try.prog) Try.underlying247 Try.underlying3 hM17 38 (.func (.func 228) #[] #[])
  obtain ⟨w19, hr19, hM19, hF19⟩ := run_put (P := Try.prog) Try.underlying247 Try.underlying3 hM18 39 (.func (.func 229) #[] #[])
  obtain ⟨w20, hr20, hM20, hF20⟩ := run_put (P := Try.prog) Try.underlying247 Try.underlying3 hM19 40 (.func (.func 230) #[] #[])
  have hF := (Fr.refl [] w).alloc (.map #[] 0)
  replace hF := hF.trans_new hF1 (by simp; try omega)
  replace hF := hF.trans_new hF2 (by simp; try omega)
  replace hF := hF.trans_new hF3 (by simp; try omega)
  replace hF := hF.trans_new hF4 (by simp; try omega)
  replace hF := hF.trans_new hF5 (by simp; try omega)
  replace hF := hF.trans_new hF6 (by simp; try omega)
  replace hF := hF.trans_new hF7 (by simp; try omega)
  replace hF := hF.trans_new hF8 (by simp; try omega)
  replace hF := hF.trans_new hF9 (by simp; try omega)
  replace hF := hF.trans_new hF10 (by simp; try omega)
  replace hF := hF.trans_new hF11 (by simp; try omega)
  replace hF := hF.trans_new hF12 (by simp; try omega)
  replace hF := hF.trans_new hF13 (by simp; try omega)
  replace hF := hF.trans_new hF14 (by simp; try omega)
  replace hF := hF.trans_new hF15 (by simp; try omega)
  replace hF := hF.trans_new hF16 (by simp; try omega)
  replace hF := hF.trans_new hF17 (by simp; try omega)
  replace hF := hF.trans_new hF18 (by simp; try omega)
  replace hF := hF.trans_new hF19 (by simp; try omega)
  replace hF := hF.trans_new hF20 (by simp; try omega)
  have hE : MapAt w20 w.heap.size linesL := hM20
  go_enter Try.func188, Try.ntmps188
  go_wp2
  go_ret
  exact ⟨⟨_, rfl, hE, Nat.le_refl _⟩, hF⟩

end Go.Proofs.Ytolkgdchinaonaa
