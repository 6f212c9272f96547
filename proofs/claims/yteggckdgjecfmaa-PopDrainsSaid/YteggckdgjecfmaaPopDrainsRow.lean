/- mudlark's law PopDrains: the given statement, from the walk. -/
import Derived.Test.YteggckdgjecfmaaRows
import Derived.Test.YteggckdgjecfmaaWords
import Derived.Test.YteggckdgjecfmaaCfgOf
import Derived.Test.YteggckdgjecfmaaPopDrainsWalk
namespace Go.Proofs.Yteggckdgjecfmaa
open Go.ChangeShapes Go.WideShapes Go.ChangeAt Go.RowKit

theorem popDrains_own : ownKnob Try.prog.godebug = none := by kernel_rfl
theorem popDrains_laid : laidOutB Try.prog = true := by kernel_rfl

set_option maxRecDepth 100000 in
set_option maxHeartbeats 400000 in
theorem popDrains_lifted (os : Os) (started : os.Started) (H : Type) (enc : TypeId × Value → H) :
    ReturnsInHanded {} Try.checked os 9 .any (Rows.popDrainsSpec.pre6 enc Try.prog Try.f9 Rows.popDrainsRow.domain false) (Rows.popDrainsSpec.post enc Try.prog Try.f9 false true false false) := by
  refine returnsInHanded_of_change_sized (C := Try.checked) popDrains_own started (by kernel_rfl) Try.func9
    (ChangeSpec.witness6 (enc := enc) (C := Try.checked) false ⟨#[], #[.agg #[.int .i64 0, .int .i64 0, .int .i64 0, .int .i64 0], .slice none 0 0], []⟩ 8 (by kernel_rfl) (by kernel_rfl) (by kernel_rfl) (by kernel_rfl)) ?_
  intro W base args ds gs before hval0 hW _ hsz0 _
  have hsz : (DataW.weightsEach Try.prog (Try.f9.params.toList ++ Rows.popDrainsSpec.plain.varTypes Try.prog) (ds ++ gs)).all (· ≤ reachBytes) = true := hsz0
  clear hsz0
  have hval : OkAll Try.prog W base Try.f9.params args := hval0
  have hW' := hW
  obtain ⟨p, q, hA0, hV, rfl, _, _⟩ := hW
  have hA : DataW.TrodAll enc Try.prog W 0 (fun _ => true) true Try.f9.params.toList args.toList ds p := hA0
  rw [Try.params9] at hA hval hsz
  obtain ⟨v0, vs0, d0, ds0, p0, q0, hargs, rfl, rfl, h0, r0⟩ := trodAll_cons hA
  obtain ⟨v1, vs1, d1, ds1, p1, q1, rfl, rfl, rfl, h1, r1⟩ := trodAll_cons r0
  obtain ⟨rfl, rfl, rfl⟩ := trodAll_nil r1
  obtain rfl : args = #[v0, v1] := by cases args; simp_all
  obtain ⟨rfl, rfl⟩ := trodVars_none hV
  have k0 := h0
  have lt0 : ∀ x ∈ p0, x.block < W.heap.size := by obtain ⟨m, hm⟩ := k0; exact DataW.trod_lt m _ _ _ hm
  obtain ⟨c, rfl⟩ := okAll_cfg (n := 4) hval 0 rfl rfl Try.underlying45 (by kernel_rfl) h0
  have k1 := h1
  have lt1 : ∀ x ∈ p1, x.block < W.heap.size := by obtain ⟨m, hm⟩ := k1; exact DataW.trod_lt m _ _ _ hm
  obtain ⟨l, rd_l, wf_l, dat_l⟩ := flat_words (n := 4) Try.underlying22 (by kernel_rfl) (by kernel_rfl) (okAll_slice hval 1 rfl rfl Try.underlying22) h1
  have ln_l : l.length * 8 ≤ 140737488351232 := by
    rcases dat_l with h | ⟨el, sp, rfl, h⟩
    · rw [h.2]; decide
    · have := sized_slice hsz (j := 1) (t := 22) (e := 36) rfl rfl Try.underlying22
      rw [show Try.prog.bytesOf 36 = 8 by kernel_rfl] at this
      simp only [reachBytes] at this
      omega
  clear hA0 hval0
  refine (popDrains_any c v1 l W rd_l (by omega) wf_l).mono fun e W' ⟨he, hFr⟩ => ?_
  subst he
  have bel := hFr.below (B := W.heap.size) (Nat.le_refl _) (by simp)
  exact ⟨_, rfl, _, _, _, [], _, [], hW', trodAll_mk1 (shut_bool Try.underlying4 _), (trodAll_cons_mk (Below.trod popDrains_laid (by kernel_rfl) (of_decide_eq_true (by kernel_rfl)) k0 bel lt0) (trodAll_cons_mk (Below.trod popDrains_laid (by kernel_rfl) (of_decide_eq_true (by kernel_rfl)) k1 bel lt1) trodAll_mk0)), rfl, bel.frame _, fun h => by cases h⟩

theorem popDrains_proved : Rows.PopDrainsSaid :=
  OpenClaim.holds_of_wide 9 Try.f9 rfl rfl rfl rfl rfl rfl rfl ⟨rfl, rfl, rfl, rfl, rfl⟩ rfl rfl rfl rfl rfl (by kernel_rfl) Try.func9 (joined_of (by kernel_rfl))
    (of_decide_eq_true (by kernel_rfl)) (by unfold Func.isWrapper; first | (rw [if_pos (by decide +kernel)]; kernel_rfl) | (rw [if_neg (by decide +kernel)]; exact ⟨rfl, rfl⟩))
    (fun os started H enc _ => popDrains_lifted os started H enc)

end Go.Proofs.Yteggckdgjecfmaa
