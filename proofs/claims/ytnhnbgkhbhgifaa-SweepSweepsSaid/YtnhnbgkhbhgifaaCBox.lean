/- The boxes of a collector's step: the hand's pointer, the record, the result; what stays of them. -/
import Derived.Test.YtnhnbgkhbhgifaaPlain
import Derived.Test.YtnhnbgkhbhgifaaRoots
import Derived.Test.YtnhnbgkhbhgifaaRefHand
namespace Go.Proofs.Ytnhnbgkhbhgifaa
open Go.RowKit
set_option linter.unusedVariables false
set_option linter.unusedSimpArgs false

abbrev zCol : List Value := [.int .i64 0, .int .i64 0, .int .i64 0, .int .i64 0, .int .u64 0, .int .u64 0, .bool false, .int .i64 0, .int .i64 0]
theorem Blk.set9 {w : World} {b : Nat} {t : TypeId} {u0 u1 u2 u3 u4 u5 u6 u7 u8 : Value} (h : Blk w b t [u0, u1, u2, u3, u4, u5, u6, u7, u8]) (v0 v1 v2 v3 v4 v5 v6 v7 v8 : Value) :
    Blk (((((((((w.setCell ⟨b, 0, none⟩ v0).setCell ⟨b, 1, none⟩ v1).setCell ⟨b, 2, none⟩ v2).setCell ⟨b, 3, none⟩ v3).setCell ⟨b, 4, none⟩ v4).setCell ⟨b, 5, none⟩ v5).setCell ⟨b, 6, none⟩ v6).setCell ⟨b, 7, none⟩ v7).setCell ⟨b, 8, none⟩ v8) b t [v0, v1, v2, v3, v4, v5, v6, v7, v8] :=
  ((((((((h.set 0 v0).set 1 v1).set 2 v2).set 3 v3).set 4 v4).set 5 v5).set 6 v6).set 7 v7).set 8 v8

/-- The program's: three boxes behind n blocks. -/
structure CB (w0 : World) (h ab db : Nat) (s : HS) (cs : List Value) (W : World) : Prop where
  H : HAt W h ab db s
  b : Blk W w0.heap.size 46 [.pointer (some ⟨h, 0, none⟩)]
  x : Blk W (w0.heap.size + 1) 67 cs
  r : Blk W (w0.heap.size + 1 + 1) 67 zCol
  f : Fr [h, db] w0 W
  l1 : h < w0.heap.size
  l2 : ab < w0.heap.size
  l3 : db < w0.heap.size

namespace CB
variable {w0 W W' : World} {h ab db : Nat} {s s' : HS} {cs cs' : List Value}
theorem start (H : HAt w0 h ab db s) (cs : List Value) : CB w0 h ab db s cs (((w0.alloc (.cells #[.pointer (some ⟨h, 0, none⟩)] 46)).alloc (.cells cs.toArray 67)).alloc (.cells zCol.toArray 67)) :=
  ⟨((H.alloc _).alloc _).alloc _, ((Blk.new w0 [.pointer (some ⟨h, 0, none⟩)] 46).alloc _).alloc _,
    by have := (Blk.new (w0.alloc (.cells #[.pointer (some ⟨h, 0, none⟩)] 46)) cs 67).alloc (.cells zCol.toArray 67); simpa only [World.size_alloc] using this,
    by have := Blk.new ((w0.alloc (.cells #[.pointer (some ⟨h, 0, none⟩)] 46)).alloc (.cells cs.toArray 67)) zCol 67; simpa only [World.size_alloc] using this,
    (((Fr.refl _ _).alloc _).alloc _).alloc _, H.blk.lt, H.ar.hdr.lt, H.ar.dat.lt⟩
theorem drew (B : CB w0 h ab db s cs W) : CB w0 h ab db s cs W.drew := ⟨B.H.drew, B.b.drew, B.x.drew, B.r.drew, B.f.drew, B.l1, B.l2, B.l3⟩
theorem kept0 (B : CB w0 h ab db s cs W) (F : Fr [] W W') : CB w0 h ab db s cs W' :=
  ⟨B.H.kept0 F, B.b.kept F (by simp), B.x.kept F (by simp), B.r.kept F (by simp), B.f.trans (F.mono (by simp)), B.l1, B.l2, B.l3⟩
theorem hand (B : CB w0 h ab db s cs W) (H : HAt W' h ab db s') (F : Fr [h, db] W W') : CB w0 h ab db s' cs W' := by
  have l1 := B.l1
  have l3 := B.l3
  exact ⟨H, B.b.kept F (by simp; omega), B.x.kept F (by simp; omega), B.r.kept F (by simp; omega), B.f.trans F, B.l1, B.l2, B.l3⟩
theorem set (B : CB w0 h ab db s cs W) (i : Nat) (v : Value) : CB w0 h ab db s (cs.set i v) (W.setCell ⟨w0.heap.size + 1, i, none⟩ v) := by
  have l1 := B.l1
  have l2 := B.l2
  have l3 := B.l3
  exact ⟨B.H.other (by simp; omega) (by simp; omega) (by simp; omega) _, B.b.other (by simp) _, B.x.set i v, B.r.other (by simp) _, B.f.setNew (by simp) _, B.l1, B.l2, B.l3⟩
/-- Something that writes the record alone. -/
theorem own (B : CB w0 h ab db s cs W) (X : Blk W' (w0.heap.size + 1) 67 cs') (F : Fr [w0.heap.size + 1] W W') : CB w0 h ab db s cs' W' := by
  have l1 := B.l1
  have l2 := B.l2
  have l3 := B.l3
  exact ⟨B.H.kept F (by simp; omega) (by simp; omega) (by simp; omega), B.b.kept F (by simp), X, B.r.kept F (by simp), B.f.trans_new F (by simp; omega), B.l1, B.l2, B.l3⟩
/-- Something that does an access and writes the record. -/
theorem both (B : CB w0 h ab db s cs W) (H : HAt W' h ab db s') (X : Blk W' (w0.heap.size + 1) 67 cs') (F : Fr [h, db, w0.heap.size + 1] W W') : CB w0 h ab db s' cs' W' := by
  have l1 := B.l1
  have l2 := B.l2
  have l3 := B.l3
  exact ⟨H, B.b.kept F (by simp; omega), X, B.r.kept F (by simp; omega), B.f.trans_new F (by simp; omega), B.l1, B.l2, B.l3⟩
theorem alloc (B : CB w0 h ab db s cs W) (o : Obj) : CB w0 h ab db s cs (W.alloc o) := B.kept0 ((Fr.refl _ _).alloc o)
/-- The result is written. -/
theorem done (B : CB w0 h ab db s cs W) (v0 v1 v2 v3 v4 v5 v6 v7 v8 : Value) :
    HAt (((((((((W.setCell ⟨w0.heap.size + 1 + 1, 0, none⟩ v0).setCell ⟨w0.heap.size + 1 + 1, 1, none⟩ v1).setCell ⟨w0.heap.size + 1 + 1, 2, none⟩ v2).setCell ⟨w0.heap.size + 1 + 1, 3, none⟩ v3).setCell ⟨w0.heap.size + 1 + 1, 4, none⟩ v4).setCell ⟨w0.heap.size + 1 + 1, 5, none⟩ v5).setCell ⟨w0.heap.size + 1 + 1, 6, none⟩ v6).setCell ⟨w0.heap.size + 1 + 1, 7, none⟩ v7).setCell ⟨w0.heap.size + 1 + 1, 8, none⟩ v8) h ab db s ∧
    Fr [h, db] w0 (((((((((W.setCell ⟨w0.heap.size + 1 + 1, 0, none⟩ v0).setCell ⟨w0.heap.size + 1 + 1, 1, none⟩ v1).setCell ⟨w0.heap.size + 1 + 1, 2, none⟩ v2).setCell ⟨w0.heap.size + 1 + 1, 3, none⟩ v3).setCell ⟨w0.heap.size + 1 + 1, 4, none⟩ v4).setCell ⟨w0.heap.size + 1 + 1, 5, none⟩ v5).setCell ⟨w0.heap.size + 1 + 1, 6, none⟩ v6).setCell ⟨w0.heap.size + 1 + 1, 7, none⟩ v7).setCell ⟨w0.heap.size + 1 + 1, 8, none⟩ v8) := by
  have F : Fr [w0.heap.size + 1 + 1] W (((((((((W.setCell ⟨w0.heap.size + 1 + 1, 0, none⟩ v0).setCell ⟨w0.heap.size + 1 + 1, 1, none⟩ v1).setCell ⟨w0.heap.size + 1 + 1, 2, none⟩ v2).setCell ⟨w0.heap.size + 1 + 1, 3, none⟩ v3).setCell ⟨w0.heap.size + 1 + 1, 4, none⟩ v4).setCell ⟨w0.heap.size + 1 + 1, 5, none⟩ v5).setCell ⟨w0.heap.size + 1 + 1, 6, none⟩ v6).setCell ⟨w0.heap.size + 1 + 1, 7, none⟩ v7).setCell ⟨w0.heap.size + 1 + 1, 8, none⟩ v8) :=
    (((((((((Fr.refl _ _).setCell (by simp) _).setCell (by simp) _).setCell (by simp) _).setCell (by simp) _).setCell (by simp) _).setCell (by simp) _).setCell (by simp) _).setCell (by simp) _).setCell (by simp) _
  have l1 := B.l1
  have l2 := B.l2
  have l3 := B.l3
  exact ⟨B.H.kept F (by simp; omega) (by simp; omega) (by simp; omega), B.f.trans_new F (by simp; omega)⟩
end CB

/-- The document's: two boxes. -/
structure RB (w0 : World) (r rd cap : Nat) (ext : List Value) (s : HS) (cs : List Value) (W : World) : Prop where
  H : RAt W r rd cap ext s
  x : Blk W w0.heap.size 67 cs
  z : Blk W (w0.heap.size + 1) 67 zCol
  f : Fr [r, rd] w0 W
  l1 : r < w0.heap.size
  l3 : rd < w0.heap.size

namespace RB
variable {w0 W W' : World} {r rd cap : Nat} {ext : List Value} {s s' : HS} {cs cs' : List Value}
theorem start (H : RAt w0 r rd cap ext s) (cs : List Value) : RB w0 r rd cap ext s cs ((w0.alloc (.cells cs.toArray 67)).alloc (.cells zCol.toArray 67)) :=
  ⟨(H.alloc _).alloc _, (Blk.new w0 cs 67).alloc _,
    by have := Blk.new (w0.alloc (.cells cs.toArray 67)) zCol 67; simpa only [World.size_alloc] using this,
    ((Fr.refl _ _).alloc _).alloc _, H.blk.lt, H.ar.dat.lt⟩
theorem drew (B : RB w0 r rd cap ext s cs W) : RB w0 r rd cap ext s cs W.drew := ⟨B.H.drew, B.x.drew, B.z.drew, B.f.drew, B.l1, B.l3⟩
theorem kept0 (B : RB w0 r rd cap ext s cs W) (F : Fr [] W W') : RB w0 r rd cap ext s cs W' :=
  ⟨B.H.kept F (by simp) (by simp), B.x.kept F (by simp), B.z.kept F (by simp), B.f.trans (F.mono (by simp)), B.l1, B.l3⟩
theorem hand (B : RB w0 r rd cap ext s cs W) (H : RAt W' r rd cap ext s') (F : Fr [r, rd] W W') : RB w0 r rd cap ext s' cs W' := by
  have l1 := B.l1
  have l3 := B.l3
  exact ⟨H, B.x.kept F (by simp; omega), B.z.kept F (by simp; omega), B.f.trans F, B.l1, B.l3⟩
theorem set (B : RB w0 r rd cap ext s cs W) (i : Nat) (v : Value) : RB w0 r rd cap ext s (cs.set i v) (W.setCell ⟨w0.heap.size, i, none⟩ v) := by
  have l1 := B.l1
  have l3 := B.l3
  exact ⟨B.H.other (by simp; omega) (by simp; omega) _, B.x.set i v, B.z.other (by simp) _, B.f.setNew (by simp) _, B.l1, B.l3⟩
theorem alloc (B : RB w0 r rd cap ext s cs W) (o : Obj) : RB w0 r rd cap ext s cs (W.alloc o) := B.kept0 ((Fr.refl _ _).alloc o)
theorem done (B : RB w0 r rd cap ext s cs W) (v0 v1 v2 v3 v4 v5 v6 v7 v8 : Value) :
    RAt (((((((((W.setCell ⟨w0.heap.size + 1, 0, none⟩ v0).setCell ⟨w0.heap.size + 1, 1, none⟩ v1).setCell ⟨w0.heap.size + 1, 2, none⟩ v2).setCell ⟨w0.heap.size + 1, 3, none⟩ v3).setCell ⟨w0.heap.size + 1, 4, none⟩ v4).setCell ⟨w0.heap.size + 1, 5, none⟩ v5).setCell ⟨w0.heap.size + 1, 6, none⟩ v6).setCell ⟨w0.heap.size + 1, 7, none⟩ v7).setCell ⟨w0.heap.size + 1, 8, none⟩ v8) r rd cap ext s ∧
    Fr [r, rd] w0 (((((((((W.setCell ⟨w0.heap.size + 1, 0, none⟩ v0).setCell ⟨w0.heap.size + 1, 1, none⟩ v1).setCell ⟨w0.heap.size + 1, 2, none⟩ v2).setCell ⟨w0.heap.size + 1, 3, none⟩ v3).setCell ⟨w0.heap.size + 1, 4, none⟩ v4).setCell ⟨w0.heap.size + 1, 5, none⟩ v5).setCell ⟨w0.heap.size + 1, 6, none⟩ v6).setCell ⟨w0.heap.size + 1, 7, none⟩ v7).setCell ⟨w0.heap.size + 1, 8, none⟩ v8) := by
  have F : Fr [w0.heap.size + 1] W (((((((((W.setCell ⟨w0.heap.size + 1, 0, none⟩ v0).setCell ⟨w0.heap.size + 1, 1, none⟩ v1).setCell ⟨w0.heap.size + 1, 2, none⟩ v2).setCell ⟨w0.heap.size + 1, 3, none⟩ v3).setCell ⟨w0.heap.size + 1, 4, none⟩ v4).setCell ⟨w0.heap.size + 1, 5, none⟩ v5).setCell ⟨w0.heap.size + 1, 6, none⟩ v6).setCell ⟨w0.heap.size + 1, 7, none⟩ v7).setCell ⟨w0.heap.size + 1, 8, none⟩ v8) :=
    (((((((((Fr.refl _ _).setCell (by simp) _).setCell (by simp) _).setCell (by simp) _).setCell (by simp) _).setCell (by simp) _).setCell (by simp) _).setCell (by simp) _).setCell (by simp) _).setCell (by simp) _
  have l1 := B.l1
  have l3 := B.l3
  exact ⟨B.H.kept F (by simp; omega) (by simp; omega), B.f.trans_new F (by simp; omega)⟩
end RB

/-- Two boxes beside a hand that is only read. -/
structure HB (w0 : World) (h ab db : Nat) (s : HS) (cs : List Value) (W : World) : Prop where
  H : HAt W h ab db s
  x : Blk W w0.heap.size 67 cs
  z : Blk W (w0.heap.size + 1) 67 zCol
  f : Fr ([] : List Nat) w0 W
  l1 : h < w0.heap.size
  l2 : ab < w0.heap.size
  l3 : db < w0.heap.size

namespace HB
variable {w0 W W' : World} {h ab db : Nat} {s s' : HS} {cs cs' : List Value}
theorem start (H : HAt w0 h ab db s) (cs : List Value) : HB w0 h ab db s cs ((w0.alloc (.cells cs.toArray 67)).alloc (.cells zCol.toArray 67)) :=
  ⟨(H.alloc _).alloc _, (Blk.new w0 cs 67).alloc _,
    by have := Blk.new (w0.alloc (.cells cs.toArray 67)) zCol 67; simpa only [World.size_alloc] using this,
    ((Fr.refl _ _).alloc _).alloc _, H.blk.lt, H.ar.hdr.lt, H.ar.dat.lt⟩
theorem drew (B : HB w0 h ab db s cs W) : HB w0 h ab db s cs W.drew := ⟨B.H.drew, B.x.drew, B.z.drew, B.f.drew, B.l1, B.l2, B.l3⟩
theorem kept0 (B : HB w0 h ab db s cs W) (F : Fr [] W W') : HB w0 h ab db s cs W' :=
  ⟨B.H.kept F (by simp) (by simp) (by simp), B.x.kept F (by simp), B.z.kept F (by simp), B.f.trans (F.mono (by simp)), B.l1, B.l2, B.l3⟩
theorem set (B : HB w0 h ab db s cs W) (i : Nat) (v : Value) : HB w0 h ab db s (cs.set i v) (W.setCell ⟨w0.heap.size, i, none⟩ v) := by
  have l1 := B.l1
  have l2 := B.l2
  have l3 := B.l3
  exact ⟨B.H.other (by simp; omega) (by simp; omega) (by simp; omega) _, B.x.set i v, B.z.other (by simp) _, B.f.setNew (by simp) _, B.l1, B.l2, B.l3⟩
theorem alloc (B : HB w0 h ab db s cs W) (o : Obj) : HB w0 h ab db s cs (W.alloc o) := B.kept0 ((Fr.refl _ _).alloc o)
theorem done (B : HB w0 h ab db s cs W) (v0 v1 v2 v3 v4 v5 v6 v7 v8 : Value) :
    HAt (((((((((W.setCell ⟨w0.heap.size + 1, 0, none⟩ v0).setCell ⟨w0.heap.size + 1, 1, none⟩ v1).setCell ⟨w0.heap.size + 1, 2, none⟩ v2).setCell ⟨w0.heap.size + 1, 3, none⟩ v3).setCell ⟨w0.heap.size + 1, 4, none⟩ v4).setCell ⟨w0.heap.size + 1, 5, none⟩ v5).setCell ⟨w0.heap.size + 1, 6, none⟩ v6).setCell ⟨w0.heap.size + 1, 7, none⟩ v7).setCell ⟨w0.heap.size + 1, 8, none⟩ v8) h ab db s ∧
    Fr ([] : List Nat) w0 (((((((((W.setCell ⟨w0.heap.size + 1, 0, none⟩ v0).setCell ⟨w0.heap.size + 1, 1, none⟩ v1).setCell ⟨w0.heap.size + 1, 2, none⟩ v2).setCell ⟨w0.heap.size + 1, 3, none⟩ v3).setCell ⟨w0.heap.size + 1, 4, none⟩ v4).setCell ⟨w0.heap.size + 1, 5, none⟩ v5).setCell ⟨w0.heap.size + 1, 6, none⟩ v6).setCell ⟨w0.heap.size + 1, 7, none⟩ v7).setCell ⟨w0.heap.size + 1, 8, none⟩ v8) := by
  have F : Fr [w0.heap.size + 1] W (((((((((W.setCell ⟨w0.heap.size + 1, 0, none⟩ v0).setCell ⟨w0.heap.size + 1, 1, none⟩ v1).setCell ⟨w0.heap.size + 1, 2, none⟩ v2).setCell ⟨w0.heap.size + 1, 3, none⟩ v3).setCell ⟨w0.heap.size + 1, 4, none⟩ v4).setCell ⟨w0.heap.size + 1, 5, none⟩ v5).setCell ⟨w0.heap.size + 1, 6, none⟩ v6).setCell ⟨w0.heap.size + 1, 7, none⟩ v7).setCell ⟨w0.heap.size + 1, 8, none⟩ v8) :=
    (((((((((Fr.refl _ _).setCell (by simp) _).setCell (by simp) _).setCell (by simp) _).setCell (by simp) _).setCell (by simp) _).setCell (by simp) _).setCell (by simp) _).setCell (by simp) _).setCell (by simp) _
  have l1 := B.l1
  have l2 := B.l2
  have l3 := B.l3
  exact ⟨B.H.kept F (by simp; omega) (by simp; omega) (by simp; omega), B.f.trans_new F (by simp)⟩
end HB

end Go.Proofs.Ytnhnbgkhbhgifaa
