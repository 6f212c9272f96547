/- The boxes of lisp.Step: how far it is, the result, what a machine's step told. -/
import Derived.Test.YtolkgdchinaonaaGBox
import Derived.Test.YtolkgdchinaonaaRun
import Derived.Test.YtolkgdchinaonaaRootsP
namespace Go.Proofs.Ytolkgdchinaonaa
open Go.RowKit
set_option linter.unusedVariables false
set_option linter.unusedSimpArgs false

theorem Blk.setMu {w : World} {b : Nat} {t : TypeId} {u0 u1 u2 u3 u4 u5 u6 u7 u8 u9 u10 u11 u12 : Value} (h : Blk w b t [u0, u1, u2, u3, u4, u5, u6, u7, u8, u9, u10, u11, u12]) (v0 v1 v2 v3 v4 v5 v6 v7 v8 v9 v10 v11 v12 : Value) : Blk (((((((((((((w.setCell ⟨b, 0, none⟩ v0).setCell ⟨b, 1, none⟩ v1).setCell ⟨b, 2, none⟩ v2).setCell ⟨b, 3, none⟩ v3).setCell ⟨b, 4, none⟩ v4).setCell ⟨b, 5, none⟩ v5).setCell ⟨b, 6, none⟩ v6).setCell ⟨b, 7, none⟩ v7).setCell ⟨b, 8, none⟩ v8).setCell ⟨b, 9, none⟩ v9).setCell ⟨b, 10, none⟩ v10).setCell ⟨b, 11, none⟩ v11).setCell ⟨b, 12, none⟩ v12) b t [v0, v1, v2, v3, v4, v5, v6, v7, v8, v9, v10, v11, v12] := by
  have := (((((((((((((h.set 0 v0).set 1 v1).set 2 v2).set 3 v3).set 4 v4).set 5 v5).set 6 v6).set 7 v7).set 8 v8).set 9 v9).set 10 v10).set 11 v11).set 12 v12)
  simpa only [List.set_cons_zero, List.set_cons_succ] using this
structure SB (w0 : World) (h ab db yb : Nat) (s : HS) (rs : List Value) (yt : TypeId) (yc : List Value) (W : World) : Prop where
  H : HAt W h ab db s
  r : Blk W (w0.heap.size + 1) 54 rs
  y : Blk W yb yt yc
  f : Fr [h, db] w0 W
  l1 : h < w0.heap.size
  l2 : ab < w0.heap.size
  l3 : db < w0.heap.size
  l4 : w0.heap.size + 1 < yb
namespace SB
variable {w0 W W' : World} {h ab db yb : Nat} {s s' : HS} {rs : List Value} {yt : TypeId} {yc : List Value}
theorem drew (B : SB w0 h ab db yb s rs yt yc W) : SB w0 h ab db yb s rs yt yc W.drew := ⟨B.H.drew, B.r.drew, B.y.drew, B.f.drew, B.l1, B.l2, B.l3, B.l4⟩
theorem ret (B : SB w0 h ab db yb s zMut yt yc W) (v0 v1 v2 v3 v4 v5 v6 v7 v8 v9 v10 v11 v12 : Value) : SB w0 h ab db yb s [v0, v1, v2, v3, v4, v5, v6, v7, v8, v9, v10, v11, v12] yt yc (((((((((((((W.setCell ⟨w0.heap.size + 1, 0, none⟩ v0).setCell ⟨w0.heap.size + 1, 1, none⟩ v1).setCell ⟨w0.heap.size + 1, 2, none⟩ v2).setCell ⟨w0.heap.size + 1, 3, none⟩ v3).setCell ⟨w0.heap.size + 1, 4, none⟩ v4).setCell ⟨w0.heap.size + 1, 5, none⟩ v5).setCell ⟨w0.heap.size + 1, 6, none⟩ v6).setCell ⟨w0.heap.size + 1, 7, none⟩ v7).setCell ⟨w0.heap.size + 1, 8, none⟩ v8).setCell ⟨w0.heap.size + 1, 9, none⟩ v9).setCell ⟨w0.heap.size + 1, 10, none⟩ v10).setCell ⟨w0.heap.size + 1, 11, none⟩ v11).setCell ⟨w0.heap.size + 1, 12, none⟩ v12) := by
  have l1 := B.l1
  have l2 := B.l2
  have l3 := B.l3
  have l4 := B.l4
  have F : Fr [w0.heap.size + 1] W (((((((((((((W.setCell ⟨w0.heap.size + 1, 0, none⟩ v0).setCell ⟨w0.heap.size + 1, 1, none⟩ v1).setCell ⟨w0.heap.size + 1, 2, none⟩ v2).setCell ⟨w0.heap.size + 1, 3, none⟩ v3).setCell ⟨w0.heap.size + 1, 4, none⟩ v4).setCell ⟨w0.heap.size + 1, 5, none⟩ v5).setCell ⟨w0.heap.size + 1, 6, none⟩ v6).setCell ⟨w0.heap.size + 1, 7, none⟩ v7).setCell ⟨w0.heap.size + 1, 8, none⟩ v8).setCell ⟨w0.heap.size + 1, 9, none⟩ v9).setCell ⟨w0.heap.size + 1, 10, none⟩ v10).setCell ⟨w0.heap.size + 1, 11, none⟩ v11).setCell ⟨w0.heap.size + 1, 12, none⟩ v12) := (((((((((((((Fr.refl _ _).setCell (by simp) _).setCell (by simp) _).setCell (by simp) _).setCell (by simp) _).setCell (by simp) _).setCell (by simp) _).setCell (by simp) _).setCell (by simp) _).setCell (by simp) _).setCell (by simp) _).setCell (by simp) _).setCell (by simp) _).setCell (by simp) _
  exact ⟨B.H.kept F (by simp; omega) (by simp; omega) (by simp; omega), B.r.setMu _ _ _ _ _ _ _ _ _ _ _ _ _, B.y.kept F (by simp; omega), B.f.trans_new F (by simp; omega), B.l1, B.l2, B.l3, B.l4⟩
end SB

end Go.Proofs.Ytolkgdchinaonaa
