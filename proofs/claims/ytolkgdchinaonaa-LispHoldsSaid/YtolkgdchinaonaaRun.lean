/- The box of a mutator's own line: its hand, its number, how far it is, whether the line was the linearising one. -/
import Derived.Test.YtolkgdchinaonaaGBox
import Derived.Test.YtolkgdchinaonaaHandNew
import Derived.Test.YtolkgdchinaonaaBarrier
namespace Go.Proofs.Ytolkgdchinaonaa
open Go.RowKit
set_option linter.unusedVariables false
set_option linter.unusedSimpArgs false

structure LB (w0 : World) (h ab db rb : Nat) (s : HS) (cs : List Value) (W : World) : Prop where
  H : HAt W h ab db s
  x : Blk W rb 251 cs
  f : Fr [h, db, rb] w0 W
  n1 : h ≠ rb
  n2 : ab ≠ rb
  n3 : db ≠ rb
namespace LB
variable {w0 W W' : World} {h ab db rb : Nat} {s s' : HS} {cs cs' : List Value}
theorem start (H : HAt w0 h ab db s) (X : Blk w0 rb 251 cs) (n1 : h ≠ rb) (n2 : ab ≠ rb) (n3 : db ≠ rb) : LB w0 h ab db rb s cs w0 := ⟨H, X, Fr.refl _ _, n1, n2, n3⟩
theorem drew (B : LB w0 h ab db rb s cs W) : LB w0 h ab db rb s cs W.drew := ⟨B.H.drew, B.x.drew, B.f.drew, B.n1, B.n2, B.n3⟩
theorem kept0 (B : LB w0 h ab db rb s cs W) (F : Fr [] W W') : LB w0 h ab db rb s cs W' := ⟨B.H.kept0 F, B.x.kept F (by simp), B.f.trans (F.mono (by simp)), B.n1, B.n2, B.n3⟩
theorem hand (B : LB w0 h ab db rb s cs W) (H : HAt W' h ab db s') (F : Fr [h, db] W W') : LB w0 h ab db rb s' cs W' := by
  have n1 := B.n1
  have n3 := B.n3
  exact ⟨H, B.x.kept F (by simp; omega), B.f.trans (F.mono (by simp)), B.n1, B.n2, B.n3⟩
theorem all (B : LB w0 h ab db rb s cs W) (H : HAt W' h ab db s') (X : Blk W' rb 251 cs') (F : Fr [h, db, rb] W W') : LB w0 h ab db rb s' cs' W' := ⟨H, X, B.f.trans F, B.n1, B.n2, B.n3⟩
theorem own (B : LB w0 h ab db rb s cs W) (X : Blk W' rb 251 cs') (F : Fr [rb] W W') : LB w0 h ab db rb s cs' W' := by
  have n1 := B.n1
  have n2 := B.n2
  have n3 := B.n3
  exact ⟨B.H.kept F (by simpa using n1) (by simpa using n2) (by simpa using n3), X, B.f.trans (F.mono (by simp)), B.n1, B.n2, B.n3⟩
theorem set (B : LB w0 h ab db rb s cs W) (i : Nat) (v : Value) : LB w0 h ab db rb s (cs.set i v) (W.setCell ⟨rb, i, none⟩ v) :=
  ⟨B.H.other B.n1 B.n2 B.n3 _, B.x.set i v, B.f.setCell (by simp) _, B.n1, B.n2, B.n3⟩
theorem alloc (B : LB w0 h ab db rb s cs W) (o : Obj) : LB w0 h ab db rb s cs (W.alloc o) := B.kept0 ((Fr.refl _ _).alloc o)
end LB
theorem HAt.bd {w : World} {h ab db : Nat} {s : HS} (H : HAt w h ab db s) (i : Int) : 0 ≤ wAt s.ws i ∧ wAt s.ws i < 18446744073709551616 := H.ar.bd i

end Go.Proofs.Ytolkgdchinaonaa
