/- The document's hand: what each call does. -/
import Derived.Test.YtnhnbgkhbhgifaaRefDo
namespace Go.Proofs.Ytnhnbgkhbhgifaa
open Go.RowKit
set_option linter.unusedVariables false
set_option linter.unusedSimpArgs false

abbrev rcs (rd n cap : Nat) (c : Cfg) (a : Acc) : List Value := [.int .i64 c.cells, .int .i64 c.muts, .int .i64 c.regs, .int .i64 c.globs, .slice (some ⟨rd, 0, none⟩) n cap, .int .i64 a.kind, .int .i64 a.at_, .int .u64 a.x, .int .u64 a.y, .int .u64 a.old]

/-- The document's hand at block r, its words in block rd. -/
structure RAt (w : World) (r rd cap : Nat) (ext : List Value) (s : HS) : Prop where
  blk : Blk w r 157 (rcs rd s.ws.length cap s.c s.acc)
  ar : DAt w rd s.ws ext
  n1 : r ≠ rd
  right : s.c.Right
  len : (s.ws.length : Int) = s.c.words

section
variable {w w' : World} {r rd cap : Nat} {ext : List Value} {s : HS}
theorem RAt.kept {S : List Nat} (H : RAt w r rd cap ext s) (f : Fr S w w') (h1 : r ∉ S) (h3 : rd ∉ S) : RAt w' r rd cap ext s := ⟨H.blk.kept f h1, H.ar.kept f h3, H.n1, H.right, H.len⟩
theorem RAt.kept0 (H : RAt w r rd cap ext s) (f : Fr [] w w') : RAt w' r rd cap ext s := H.kept f (by simp) (by simp)
theorem RAt.alloc (H : RAt w r rd cap ext s) (o : Obj) : RAt (w.alloc o) r rd cap ext s := ⟨H.blk.alloc o, H.ar.alloc o, H.n1, H.right, H.len⟩
theorem RAt.drew (H : RAt w r rd cap ext s) : RAt w.drew r rd cap ext s := ⟨H.blk, H.ar.drew, H.n1, H.right, H.len⟩
theorem RAt.other (H : RAt w r rd cap ext s) {p : Addr} (h0 : r ≠ p.block) (h2 : rd ≠ p.block) (u : Value) : RAt (w.setCell p u) r rd cap ext s := ⟨H.blk.other h0 u, H.ar.other h2 u, H.n1, H.right, H.len⟩
end






end Go.Proofs.Ytnhnbgkhbhgifaa
