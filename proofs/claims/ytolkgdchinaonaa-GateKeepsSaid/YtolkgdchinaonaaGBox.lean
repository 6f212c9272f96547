/- The boxes of a mutator's step: the hand's pointer, the mutator's number, how far it is, the result. -/
import Derived.Test.YtolkgdchinaonaaPlain
import Derived.Test.YtolkgdchinaonaaHand
import Derived.Test.YtolkgdchinaonaaRoots
namespace Go.Proofs.Ytolkgdchinaonaa
open Go.RowKit
set_option linter.unusedVariables false
set_option linter.unusedSimpArgs false

abbrev zMut : List Value := [.int .i64 0, .int .i64 0, .int .i64 0, .int .i64 0, .int .i64 0, .int .u64 0, .int .u64 0, .int .u64 0, .int .u64 0, .int .u64 0, .int .u64 0, .int .i64 0, .int .i64 0]
abbrev mutCs (x : MutV) : List Value := [.int .i64 x.line, .int .i64 x.ok, .int .i64 x.oa, .int .i64 x.ob, .int .i64 x.oc, .int .u64 x.a, .int .u64 x.b, .int .u64 x.c, .int .u64 x.n, .int .u64 x.t, .int .u64 x.p, .int .i64 x.back, .int .i64 x.ret]
structure GB (w0 : World) (h ab db : Nat) (s : HS) (m : Int) (cs : List Value) (W : World) : Prop where
  H : HAt W h ab db s
  b : Blk W w0.heap.size 46 [.pointer (some ⟨h, 0, none⟩)]
  m : Blk W (w0.heap.size + 1) 3 [.int .i64 m]
  x : Blk W (w0.heap.size + 1 + 1) 54 cs
  r : Blk W (w0.heap.size + 1 + 1 + 1) 54 zMut
  f : Fr [h, db] w0 W
  l1 : h < w0.heap.size
  l2 : ab < w0.heap.size
  l3 : db < w0.heap.size
namespace GB
variable {w0 W W' : World} {h ab db : Nat} {s s' : HS} {m : Int} {cs cs' : List Value}
theorem start (H : HAt w0 h ab db s) (m : Int) (cs : List Value) : GB w0 h ab db s m cs ((((w0.alloc (.cells #[.pointer (some ⟨h, 0, none⟩)] 46)).alloc (.cells #[.int .i64 m] 3)).alloc (.cells cs.toArray 54)).alloc (.cells zMut.toArray 54)) :=
  ⟨(((H.alloc _).alloc _).alloc _).alloc _, (((Blk.new w0 [.pointer (some ⟨h, 0, none⟩)] 46).alloc _).alloc _).alloc _,
    by have := ((Blk.new (w0.alloc (.cells #[.pointer (some ⟨h, 0, none⟩)] 46)) [.int .i64 m] 3).alloc (.cells cs.toArray 54)).alloc (.cells zMut.toArray 54); simpa only [World.size_alloc] using this,
    by have := (Blk.new ((w0.alloc (.cells #[.pointer (some ⟨h, 0, none⟩)] 46)).alloc (.cells #[.int .i64 m] 3)) cs 54).alloc (.cells zMut.toArray 54); simpa only [World.size_alloc] using this,
    by have := Blk.new (((w0.alloc (.cells #[.pointer (some ⟨h, 0, none⟩)] 46)).alloc (.cells #[.int .i64 m] 3)).alloc (.cells cs.toArray 54)) zMut 54; simpa only [World.size_alloc] using this,
    ((((Fr.refl _ _).alloc _).alloc _).alloc _).alloc _, H.blk.lt, H.ar.hdr.lt, H.ar.dat.lt⟩
theorem drew (B : GB w0 h ab db s m cs W) : GB w0 h ab db s m cs W.drew := ⟨B.H.drew, B.b.drew, B.m.drew, B.x.drew, B.r.drew, B.f.drew, B.l1, B.l2, B.l3⟩
theorem kept0 (B : GB w0 h ab db s m cs W) (F : Fr [] W W') : GB w0 h ab db s m cs W' :=
  ⟨B.H.kept0 F, B.b.kept F (by simp), B.m.kept F (by simp), B.x.kept F (by simp), B.r.kept F (by simp), B.f.trans (F.mono (by simp)), B.l1, B.l2, B.l3⟩
theorem alloc (B : GB w0 h ab db s m cs W) (o : Obj) : GB w0 h ab db s m cs (W.alloc o) := B.kept0 ((Fr.refl _ _).alloc o)
theorem hand (B : GB w0 h ab db s m cs W) (H : HAt W' h ab db s') (F : Fr [h, db] W W') : GB w0 h ab db s' m cs W' := by
  have l1 := B.l1
  have l3 := B.l3
  exact ⟨H, B.b.kept F (by simp; omega), B.m.kept F (by simp; omega), B.x.kept F (by simp; omega), B.r.kept F (by simp; omega), B.f.trans F, B.l1, B.l2, B.l3⟩
theorem set (B : GB w0 h ab db s m cs W) (i : Nat) (v : Value) : GB w0 h ab db s m (cs.set i v) (W.setCell ⟨w0.heap.size + 1 + 1, i, none⟩ v) := by
  have l1 := B.l1
  have l2 := B.l2
  have l3 := B.l3
  exact ⟨B.H.other (by simp; omega) (by simp; omega) (by simp; omega) _, B.b.other (by simp; try omega) _, B.m.other (by simp) _, B.x.set i v, B.r.other (by simp) _, B.f.setNew (by simp; try omega) _, B.l1, B.l2, B.l3⟩
theorem done (B : GB w0 h ab db s m cs W) (v0 v1 v2 v3 v4 v5 v6 v7 v8 v9 v10 v11 v12 : Value) : HAt (((((((((((((W.setCell ⟨w0.heap.size + 1 + 1 + 1, 0, none⟩ v0).setCell ⟨w0.heap.size + 1 + 1 + 1, 1, none⟩ v1).setCell ⟨w0.heap.size + 1 + 1 + 1, 2, none⟩ v2).setCell ⟨w0.heap.size + 1 + 1 + 1, 3, none⟩ v3).setCell ⟨w0.heap.size + 1 + 1 + 1, 4, none⟩ v4).setCell ⟨w0.heap.size + 1 + 1 + 1, 5, none⟩ v5).setCell ⟨w0.heap.size + 1 + 1 + 1, 6, none⟩ v6).setCell ⟨w0.heap.size + 1 + 1 + 1, 7, none⟩ v7).setCell ⟨w0.heap.size + 1 + 1 + 1, 8, none⟩ v8).setCell ⟨w0.heap.size + 1 + 1 + 1, 9, none⟩ v9).setCell ⟨w0.heap.size + 1 + 1 + 1, 10, none⟩ v10).setCell ⟨w0.heap.size + 1 + 1 + 1, 11, none⟩ v11).setCell ⟨w0.heap.size + 1 + 1 + 1, 12, none⟩ v12) h ab db s ∧ Fr [h, db] w0 (((((((((((((W.setCell ⟨w0.heap.size + 1 + 1 + 1, 0, none⟩ v0).setCell ⟨w0.heap.size + 1 + 1 + 1, 1, none⟩ v1).setCell ⟨w0.heap.size + 1 + 1 + 1, 2, none⟩ v2).setCell ⟨w0.heap.size + 1 + 1 + 1, 3, none⟩ v3).setCell ⟨w0.heap.size + 1 + 1 + 1, 4, none⟩ v4).setCell ⟨w0.heap.size + 1 + 1 + 1, 5, none⟩ v5).setCell ⟨w0.heap.size + 1 + 1 + 1, 6, none⟩ v6).setCell ⟨w0.heap.size + 1 + 1 + 1, 7, none⟩ v7).setCell ⟨w0.heap.size + 1 + 1 + 1, 8, none⟩ v8).setCell ⟨w0.heap.size + 1 + 1 + 1, 9, none⟩ v9).setCell ⟨w0.heap.size + 1 + 1 + 1, 10, none⟩ v10).setCell ⟨w0.heap.size + 1 + 1 + 1, 11, none⟩ v11).setCell ⟨w0.heap.size + 1 + 1 + 1, 12, none⟩ v12) := by
  have l1 := B.l1
  have l2 := B.l2
  have l3 := B.l3
  have F : Fr [w0.heap.size + 1 + 1 + 1] W (((((((((((((W.setCell ⟨w0.heap.size + 1 + 1 + 1, 0, none⟩ v0).setCell ⟨w0.heap.size + 1 + 1 + 1, 1, none⟩ v1).setCell ⟨w0.heap.size + 1 + 1 + 1, 2, none⟩ v2).setCell ⟨w0.heap.size + 1 + 1 + 1, 3, none⟩ v3).setCell ⟨w0.heap.size + 1 + 1 + 1, 4, none⟩ v4).setCell ⟨w0.heap.size + 1 + 1 + 1, 5, none⟩ v5).setCell ⟨w0.heap.size + 1 + 1 + 1, 6, none⟩ v6).setCell ⟨w0.heap.size + 1 + 1 + 1, 7, none⟩ v7).setCell ⟨w0.heap.size + 1 + 1 + 1, 8, none⟩ v8).setCell ⟨w0.heap.size + 1 + 1 + 1, 9, none⟩ v9).setCell ⟨w0.heap.size + 1 + 1 + 1, 10, none⟩ v10).setCell ⟨w0.heap.size + 1 + 1 + 1, 11, none⟩ v11).setCell ⟨w0.heap.size + 1 + 1 + 1, 12, none⟩ v12) := (((((((((((((Fr.refl _ _).setCell (by simp) _).setCell (by simp) _).setCell (by simp) _).setCell (by simp) _).setCell (by simp) _).setCell (by simp) _).setCell (by simp) _).setCell (by simp) _).setCell (by simp) _).setCell (by simp) _).setCell (by simp) _).setCell (by simp) _).setCell (by simp) _
  exact ⟨B.H.kept F (by simp; omega) (by simp; omega) (by simp; omega), B.f.trans_new F (by simp; omega)⟩
end GB

end Go.Proofs.Ytolkgdchinaonaa
