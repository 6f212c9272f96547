/- A mutator's numbers are within their kinds. -/
import Derived.Test.YtolkgdchinaonaaFlat
import Derived.Test.YtolkgdchinaonaaMutV
namespace Go.Proofs.Ytolkgdchinaonaa
open Go.RowKit
set_option linter.unusedVariables false
set_option linter.unusedSimpArgs false

theorem MutV.wf_of {line ok oa ob oc a b c n t p back ret : Int} (hw : ∀ (i : Nat) (k : IntKind) (m : Int), ([.i64, .i64, .i64, .i64, .i64, .u64, .u64, .u64, .u64, .u64, .u64, .i64, .i64] : List IntKind)[i]? = some k → ([line, ok, oa, ob, oc, a, b, c, n, t, p, back, ret] : List Int)[i]? = some m → (Lit.int k m).wf = true) : MutV.Wf ⟨line, ok, oa, ob, oc, a, b, c, n, t, p, back, ret⟩ := by
  refine ⟨bounds_i64 (hw 0 _ _ rfl rfl), bounds_i64 (hw 1 _ _ rfl rfl), bounds_i64 (hw 2 _ _ rfl rfl), bounds_i64 (hw 3 _ _ rfl rfl), bounds_i64 (hw 4 _ _ rfl rfl), ?_, ?_, ?_, ?_, ?_, ?_, bounds_i64 (hw 11 _ _ rfl rfl), bounds_i64 (hw 12 _ _ rfl rfl)⟩
  · have := bounds_u64 (hw 5 _ _ rfl rfl); exact ⟨this.1, by simp only; omega⟩
  · have := bounds_u64 (hw 6 _ _ rfl rfl); exact ⟨this.1, by simp only; omega⟩
  · have := bounds_u64 (hw 7 _ _ rfl rfl); exact ⟨this.1, by simp only; omega⟩
  · have := bounds_u64 (hw 8 _ _ rfl rfl); exact ⟨this.1, by simp only; omega⟩
  · have := bounds_u64 (hw 9 _ _ rfl rfl); exact ⟨this.1, by simp only; omega⟩
  · have := bounds_u64 (hw 10 _ _ rfl rfl); exact ⟨this.1, by simp only; omega⟩

theorem okAll_mut {H : Type} {enc : TypeId × Value → H} {P : Program} {w : World} {b0 k : Nat} {ty : TypeId} {fs : Array Field} {v : Value} {d : DataW H} {ps : List MemPlace} {ts : Array TypeId} {args : Array Value} (hv : OkAll P w b0 ts args) (j : Nat) (e1 : ts[j]? = some ty) (e2 : args[j]? = some v)
    (hs : P.underlying ty = some (.struct fs)) (hk : flatK P k ty = some [.i64, .i64, .i64, .i64, .i64, .u64, .u64, .u64, .u64, .u64, .u64, .i64, .i64]) (h : DataW.Trod enc P w 0 (fun _ => true) true ty v d ps) : ∃ x : MutV, v = x.val ∧ x.Wf := by
  obtain ⟨ns, rfl, hl, hw⟩ := okAll_agg hv j e1 e2 hs hk h
  match ns, hl, hw with
  | [line, ok, oa, ob, oc, a, b, c, n, t, p, back, ret], _, hw => exact ⟨⟨line, ok, oa, ob, oc, a, b, c, n, t, p, back, ret⟩, rfl, MutV.wf_of hw⟩

end Go.Proofs.Ytolkgdchinaonaa
