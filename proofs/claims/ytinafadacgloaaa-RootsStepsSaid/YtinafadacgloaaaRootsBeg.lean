/- roots.Begin, Scanned; mudlarkref15.Scanned. -/
import Derived.Test.YtinafadacgloaaaColV
namespace Go.Proofs.Ytinafadacgloaaa
open Go.RowKit
set_option linter.unusedVariables false
set_option linter.unusedSimpArgs false

def scannedN (line j : Int) : Int := if line = 1 ∨ line = 2 then j else if 3 ≤ line ∧ line ≤ 16 then -1 else 0

theorem rbegin15_any (line j c m a p tail cyc : Int) (found : Bool) (w : World) :
    Calls Try.prog 52 #[.agg #[.int .i64 line, .int .i64 j, .int .i64 c, .int .i64 m, .int .u64 a, .int .u64 p, .bool found, .int .i64 tail, .int .i64 cyc]] w fun e w' => e = .returned (.agg #[.int .i64 1, .int .i64 0, .int .i64 c, .int .i64 m, .int .u64 a, .int .u64 0, .bool found, .int .i64 tail, .int .i64 cyc]) ∧ Fr [] w w' := by
  go_enter Try.func52, Try.ntmps52
  go_wp2
  exact bodyPost_ret (v := .agg #[.int .i64 1, .int .i64 0, .int .i64 c, .int .i64 m, .int .u64 a, .int .u64 0, .bool found, .int .i64 tail, .int .i64 cyc]) (by simp [results, Try.results52, go_sem]) rfl ⟨rfl, by repeat (first | with_reducible exact (Fr.refl [] w).alloc _ | with_reducible exact ((Fr.refl [] w).alloc _).alloc _ | with_reducible refine Fr.setNew ?_ (Nat.le_refl _) _ | with_reducible refine Fr.setNew ?_ (Nat.le_succ _) _)⟩

theorem scanned_any (line j c m a p tail cyc : Int) (found : Bool) (w : World) :
    Calls Try.prog 50 #[.agg #[.int .i64 line, .int .i64 j, .int .i64 c, .int .i64 m, .int .u64 a, .int .u64 p, .bool found, .int .i64 tail, .int .i64 cyc]] w fun e w' => e = .returned (.int .i64 (scannedN line j)) ∧ Fr [] w w' := by
  unfold scannedN
  by_cases k1 : line = 1
  · subst k1
    rw [if_pos (.inl rfl)]
    go_enter Try.func50, Try.ntmps50
    go_wp2
    go_ret
    exact ⟨rfl, (Fr.refl _ _).alloc _⟩
  by_cases k2 : line = 2
  · subst k2
    rw [if_pos (.inr rfl)]
    go_enter Try.func50, Try.ntmps50
    go_wp2
    go_ret
    exact ⟨rfl, (Fr.refl _ _).alloc _⟩
  rw [if_neg (by omega)]
  by_cases k3 : 3 ≤ line
  · by_cases k4 : line ≤ 16
    · rw [if_pos ⟨k3, k4⟩]
      go_enter Try.func50, Try.ntmps50
      go_wp2
      go_ret
      exact ⟨rfl, (Fr.refl _ _).alloc _⟩
    · rw [if_neg (by omega)]
      go_enter Try.func50, Try.ntmps50
      go_wp2
      go_ret
      exact ⟨rfl, (Fr.refl _ _).alloc _⟩
  · rw [if_neg (by omega)]
    go_enter Try.func50, Try.ntmps50
    go_wp2
    go_ret
    exact ⟨rfl, (Fr.refl _ _).alloc _⟩

theorem rscanned_any (line j c m a p tail cyc : Int) (found : Bool) (w : World) :
    Calls Try.prog 51 #[.agg #[.int .i64 line, .int .i64 j, .int .i64 c, .int .i64 m, .int .u64 a, .int .u64 p, .bool found, .int .i64 tail, .int .i64 cyc]] w fun e w' => e = .returned (.int .i64 (scannedN line j)) ∧ Fr [] w w' := by
  unfold scannedN
  by_cases k1 : line = 1
  · subst k1
    rw [if_pos (.inl rfl)]
    go_enter Try.func51, Try.ntmps51
    go_wp2
    go_ret
    exact ⟨rfl, (Fr.refl _ _).alloc _⟩
  by_cases k2 : line = 2
  · subst k2
    rw [if_pos (.inr rfl)]
    go_enter Try.func51, Try.ntmps51
    go_wp2
    go_ret
    exact ⟨rfl, (Fr.refl _ _).alloc _⟩
  rw [if_neg (by omega)]
  have f1 : (line == 1) = false := beq_eq_false_iff_ne.2 k1
  have f2 : (line == 2) = false := beq_eq_false_iff_ne.2 k2
  by_cases k3 : 3 ≤ line
  · have k3' : 2 < line := by omega
    by_cases k4 : line ≤ 16
    · rw [if_pos ⟨k3, k4⟩]
      have k4' : line < 17 := by omega
      go_enter Try.func51, Try.ntmps51
      go_wp2
      go_ret
      exact ⟨rfl, (Fr.refl _ _).alloc _⟩
    · rw [if_neg (by omega)]
      have k4' : ¬ line < 17 := by omega
      go_enter Try.func51, Try.ntmps51
      go_wp2
      go_ret
      exact ⟨rfl, (Fr.refl _ _).alloc _⟩
  · rw [if_neg (by omega)]
    have k3' : ¬ 2 < line := by omega
    go_enter Try.func51, Try.ntmps51
    go_wp2
    go_ret
    exact ⟨rfl, (Fr.refl _ _).alloc _⟩

end Go.Proofs.Ytinafadacgloaaa
