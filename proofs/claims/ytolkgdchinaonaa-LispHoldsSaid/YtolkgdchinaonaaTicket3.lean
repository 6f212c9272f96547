/- ticket.Wants, Holds, mudlarkref11.Holds. -/
import Derived.Test.YtolkgdchinaonaaPlain
import Derived.Test.YtolkgdchinaonaaBase
import Derived.Test.YtolkgdchinaonaaProg
namespace Go.Proofs.Ytolkgdchinaonaa
open Go.RowKit
set_option linter.unusedVariables false
set_option linter.unusedSimpArgs false



theorem holds_any (line ok oa ob oc a b c n t p back ret : Int) (w : World) :
    Calls Try.prog 36 #[.agg #[.int .i64 line, .int .i64 ok, .int .i64 oa, .int .i64 ob, .int .i64 oc, .int .u64 a, .int .u64 b, .int .u64 c, .int .u64 n, .int .u64 t, .int .u64 p, .int .i64 back, .int .i64 ret]] w fun e w' => e = .returned (.bool (holdsB line back)) ∧ Fr [] w w' := by
  by_cases k34 : line = 34
  · subst k34
    have e : holdsB 34 back = true := by simp [holdsB]
    rw [e]
    go_enter Try.func36, Try.ntmps36
    go_wp2
    go_ret
    exact ⟨rfl, (Fr.refl _ _).alloc _⟩
  by_cases k35 : line = 35
  · subst k35
    have e : holdsB 35 back = true := by simp [holdsB]
    rw [e]
    go_enter Try.func36, Try.ntmps36
    go_wp2
    go_ret
    exact ⟨rfl, (Fr.refl _ _).alloc _⟩
  by_cases k36 : line = 36
  · subst k36
    have e : holdsB 36 back = true := by simp [holdsB]
    rw [e]
    go_enter Try.func36, Try.ntmps36
    go_wp2
    go_ret
    exact ⟨rfl, (Fr.refl _ _).alloc _⟩
  by_cases k37 : line = 37
  · subst k37
    have e : holdsB 37 back = true := by simp [holdsB]
    rw [e]
    go_enter Try.func36, Try.ntmps36
    go_wp2
    go_ret
    exact ⟨rfl, (Fr.refl _ _).alloc _⟩
  by_cases k41 : line = 41
  · subst k41
    have e : holdsB 41 back = true := by simp [holdsB]
    rw [e]
    go_enter Try.func36, Try.ntmps36
    go_wp2
    go_ret
    exact ⟨rfl, (Fr.refl _ _).alloc _⟩
  by_cases k80 : line = 80
  · subst k80
    have e : holdsB 80 back = (back == 37) := by simp [holdsB]
    rw [e]
    by_cases hb : back = 37
    · subst hb
      go_enter Try.func36, Try.ntmps36
      go_wp2
      go_ret
      exact ⟨rfl, (Fr.refl _ _).alloc _⟩
    · have hb2 : (back == 37) = false := beq_eq_false_iff_ne.2 hb
      go_enter Try.func36, Try.ntmps36
      go_wp2
      go_ret
      exact ⟨by simp [hb], (Fr.refl _ _).alloc _⟩
  by_cases k81 : line = 81
  · subst k81
    have e : holdsB 81 back = (back == 37) := by simp [holdsB]
    rw [e]
    by_cases hb : back = 37
    · subst hb
      go_enter Try.func36, Try.ntmps36
      go_wp2
      go_ret
      exact ⟨rfl, (Fr.refl _ _).alloc _⟩
    · have hb2 : (back == 37) = false := beq_eq_false_iff_ne.2 hb
      go_enter Try.func36, Try.ntmps36
      go_wp2
      go_ret
      exact ⟨by simp [hb], (Fr.refl _ _).alloc _⟩
  have e : holdsB line back = false := by simp [holdsB, k34, k35, k36, k37, k41, k80, k81]
  rw [e]
  go_enter Try.func36, Try.ntmps36
  go_wp2
  go_ret
  exact ⟨rfl, (Fr.refl _ _).alloc _⟩


end Go.Proofs.Ytolkgdchinaonaa
