/- mudlark's law LispTouches: the given statement, from the walk. -/
import Derived.Test.YtfmjnooicjfbbaaRows
import Derived.Test.YtfmjnooicjfbbaaWords
import Derived.Test.YtfmjnooicjfbbaaCfgOf
import Derived.Test.YtfmjnooicjfbbaaLispTouchesWalk
import Derived.Test.YtfmjnooicjfbbaaMutWf
namespace Go.Proofs.Ytfmjnooicjfbbaa
open Go.ChangeShapes Go.WideShapes Go.ChangeAt Go.RowKit

theorem lispTouches_own : ownKnob Try.prog.godebug = none := by kernel_rfl
theorem lispTouches_laid : laidOutB Try.prog = true := by kernel_rfl

set_option maxRecDepth 100000 in
set_option maxHeartbeats 400000 in
theorem lispTouches_lifted (os : Os) (started : os.Started) (H : Type) (enc : TypeId × Value → H) :
    ReturnsInHanded {} Try.checked os 13 .any (Rows.lispTouchesSpec.pre6 enc Try.prog Try.f13 Rows.lispTouchesRow.domain false) (Rows.lispTouchesSpec.post enc Try.prog Try.f13 false true false false) := by
  refine returnsInHanded_of_change_sized (C := Try.checked) lispTouches_own started (by kernel_rfl) Try.func13
    (ChangeSpec.witness6 (enc := enc) (C := Try.checked) false ⟨#[], #[.agg #[.int .i64 0, .int .i64 0, .int .i64 0, .int .i64 0], .slice none 0 0, .int .i64 0, .agg #[.int .i64 0, .int .i64 0, .int .i64 0, .int .i64 0, .int .i64 0, .int .u64 0, .int .u64 0, .int .u64 0, .int .u64 0, .int .u64 0, .int .u64 0, .int .i64 0, .int .i64 0]], []⟩ 8 (by kernel_rfl) (by kernel_rfl) (by kernel_rfl) (by kernel_rfl)) ?_
  intro W base args ds gs before hval0 hW _ hsz0 _
  have hsz : (DataW.weightsEach Try.prog (Try.f13.params.toList ++ Rows.lispTouchesSpec.plain.varTypes Try.prog) (ds ++ gs)).all (· ≤ reachBytes) = true := hsz0
  clear hsz0
  have hval : OkAll Try.prog W base Try.f13.params args := hval0
  have hW' := hW
  obtain ⟨p, q, hA0, hV, rfl, _, _⟩ := hW
  have hA : DataW.TrodAll enc Try.prog W 0 (fun _ => true) true Try.f13.params.toList args.toList ds p := hA0
  rw [Try.params13] at hA hval hsz
  obtain ⟨v0, vs0, d0, ds0, p0, q0, hargs, rfl, rfl, h0, r0⟩ := trodAll_cons hA
  obtain ⟨v1, vs1, d1, ds1, p1, q1, rfl, rfl, rfl, h1, r1⟩ := trodAll_cons r0
  obtain ⟨v2, vs2, d2, ds2, p2, q2, rfl, rfl, rfl, h2, r2⟩ := trodAll_cons r1
  obtain ⟨v3, vs3, d3, ds3, p3, q3, rfl, rfl, rfl, h3, r3⟩ := trodAll_cons r2
  obtain ⟨rfl, rfl, rfl⟩ := trodAll_nil r3
  obtain rfl : args = #[v0, v1, v2, v3] := by cases args; simp_all
  obtain ⟨rfl, rfl⟩ := trodVars_none hV
  have k0 := h0
  have lt0 : ∀ x ∈ p0, x.block < W.heap.size := by obtain ⟨m, hm⟩ := k0; exact DataW.trod_lt m _ _ _ hm
  obtain ⟨c, rfl⟩ := okAll_cfg (n := 4) hval 0 rfl rfl Try.underlying45 (by kernel_rfl) h0
  have k1 := h1
  have lt1 : ∀ x ∈ p1, x.block < W.heap.size := by obtain ⟨m, hm⟩ := k1; exact DataW.trod_lt m _ _ _ hm
  obtain ⟨l, rd_l, wf_l, dat_l⟩ := flat_words (n := 4) Try.underlying22 (by kernel_rfl) (by kernel_rfl) (okAll_slice hval 1 rfl rfl Try.underlying22) h1
  have ln_l : l.length * 8 ≤ 140737488351232 := by
    rcases dat_l with h | ⟨el, sp, rfl, h⟩
    · rw [h.2]; decide
    · have := sized_slice hsz (j := 1) (t := 22) (e := 36) rfl rfl Try.underlying22
      rw [show Try.prog.bytesOf 36 = 8 by kernel_rfl] at this
      simp only [reachBytes] at this
      omega
  have k2 := h2
  have lt2 : ∀ x ∈ p2, x.block < W.heap.size := by obtain ⟨m, hm⟩ := k2; exact DataW.trod_lt m _ _ _ hm
  obtain ⟨m, rfl, w0_m⟩ := okAll_int hval 2 rfl rfl Try.underlying3 h2
  have wf_m := bounds_i64 w0_m
  have k3 := h3
  have lt3 : ∀ x ∈ p3, x.block < W.heap.size := by obtain ⟨m, hm⟩ := k3; exact DataW.trod_lt m _ _ _ hm
  obtain ⟨x, rfl, wf_x⟩ := okAll_mut (k := 4) hval 3 rfl rfl Try.underlying54 (by kernel_rfl) h3
  clear hA0 hval0
  refine (lispTouches_any c v1 l m x wf_x W rd_l (by omega) wf_l).mono fun e W' ⟨he, hFr⟩ => ?_
  subst he
  have bel := hFr.below (B := W.heap.size) (Nat.le_refl _) (by simp)
  exact ⟨_, rfl, _, _, _, [], _, [], hW', trodAll_mk1 (shut_bool Try.underlying4 _), (trodAll_cons_mk (Below.trod lispTouches_laid (by kernel_rfl) (of_decide_eq_true (by kernel_rfl)) k0 bel lt0) (trodAll_cons_mk (Below.trod lispTouches_laid (by kernel_rfl) (of_decide_eq_true (by kernel_rfl)) k1 bel lt1) (trodAll_cons_mk (Below.trod lispTouches_laid (by kernel_rfl) (of_decide_eq_true (by kernel_rfl)) k2 bel lt2) (trodAll_cons_mk (Below.trod lispTouches_laid (by kernel_rfl) (of_decide_eq_true (by kernel_rfl)) k3 bel lt3) trodAll_mk0)))), rfl, bel.frame _, fun h => by cases h⟩

theorem lispTouches_proved : Rows.LispTouchesSaid :=
  OpenClaim.holds_of_wide 13 Try.f13 rfl rfl rfl rfl rfl rfl rfl ⟨rfl, rfl, rfl, rfl, rfl⟩ rfl rfl rfl rfl rfl (by kernel_rfl) Try.func13 (joined_of (by kernel_rfl))
    (of_decide_eq_true (by kernel_rfl)) (by unfold Func.isWrapper; first | (rw [if_pos (by decide +kernel)]; kernel_rfl) | (rw [if_neg (by decide +kernel)]; exact ⟨rfl, rfl⟩))
    (fun os started H enc _ => lispTouches_lifted os started H enc)

end Go.Proofs.Ytfmjnooicjfbbaa
