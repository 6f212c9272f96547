/- Package word. -/
import Derived.Test.YtnhnbgkhbhgifaaPlain
import Derived.Test.YtnhnbgkhbhgifaaProg
import Derived.Test.YtnhnbgkhbhgifaaBase
namespace Go.Proofs.Ytnhnbgkhbhgifaa
open Go.RowKit
set_option linter.unusedVariables false
set_option linter.unusedSimpArgs false

theorem isCell_iff (w : Int) : isCell w = true ↔ w % 2 = 1 ∧ w < 8192 := by simp [isCell]
theorem isCell_not (w : Int) : isCell w = false ↔ ¬ (w % 2 = 1 ∧ w < 8192) := by rw [← isCell_iff]; simp
theorem cellN_yes {w : Int} (h : isCell w = true) : cellN w = w / 2 := by rw [isCell_iff] at h; rw [cellN, if_pos h]
theorem cellN_no {w : Int} (h : isCell w = false) : cellN w = -1 := by rw [isCell_not] at h; rw [cellN, if_neg h]

theorem or1 (x : Int) (h0 : 0 ≤ x) (h1 : x < 18446744073709551615) (h2 : x % 2 = 0) : bits BinOp.or IntKind.u64 x 1 = x + 1 :=
  bits_join .u64 64 (by decide) (fun n a b => by rw [IntKind.wrap_u64]; omega) 1 x 1 h0 (by simpa using h2) (by omega) (by decide) (by decide) (by decide)

theorem isCell_any (x : Int) (h0 : 0 ≤ x) (h1 : x < 18446744073709551616) (w : World) :
    Calls Try.prog 114 #[.int .u64 x] w fun e w' => e = .returned (.tuple #[.int .i64 (if isCell x then x / 2 else 0), .bool (isCell x)]) ∧ w = w' := by
  have ha := and_one_u64 x h0 (by omega)
  by_cases hc : x % 2 = 1
  · rw [hc] at ha
    by_cases hl : x < 8192
    · rw [(isCell_iff x).2 ⟨hc, hl⟩]
      clear hc
      go_enter Try.func114, Try.ntmps114
      go_wp2
      go_ret2
      exact ⟨rfl, rfl⟩
    · rw [(isCell_not x).2 (by omega)]
      clear hc
      go_enter Try.func114, Try.ntmps114
      go_wp2
      go_ret2
      exact ⟨rfl, rfl⟩
  · have hc0 : x % 2 = 0 := by omega
    rw [hc0] at ha
    rw [(isCell_not x).2 (by omega)]
    clear hc hc0
    go_enter Try.func114, Try.ntmps114
    go_wp2
    go_ret2
    exact ⟨rfl, rfl⟩

theorem cell_any (i : Int) (w : World) :
    Calls Try.prog 107 #[.int .i64 i] w fun e w' => e = .returned (.int .u64 (cellW i)) ∧ w = w' := by
  unfold cellW
  by_cases h : 0 ≤ i ∧ i < 4096
  · obtain ⟨h0, h1⟩ := h
    rw [if_pos ⟨h0, h1⟩]
    have ho := or1 (i * 2) (by omega) (by omega) (by omega)
    go_enter Try.func107, Try.ntmps107
    go_wp2
    go_ret
    exact ⟨rfl, rfl⟩
  · rw [if_neg h]
    by_cases h0 : i < 0
    · clear h
      go_enter Try.func107, Try.ntmps107
      go_wp2
      go_ret
      exact ⟨rfl, rfl⟩
    · have h1 : 4096 ≤ i := by omega
      clear h
      go_enter Try.func107, Try.ntmps107
      go_wp2
      go_ret
      exact ⟨rfl, rfl⟩

end Go.Proofs.Ytnhnbgkhbhgifaa
