/- The document's hand: what each call does. -/
import Derived.Test.YteggckdgjecfmaaRefDo
namespace Go.Proofs.Yteggckdgjecfmaa
open Go.RowKit
set_option linter.unusedVariables false
set_option linter.unusedSimpArgs false

abbrev rcs (rd n cap : Nat) (c : Cfg) (a : Acc) : List Value := [.int .i64 c.cells, .int .i64 c.muts, .int .i64 c.regs, .int .i64 c.globs, .slice (some ⟨rd, 0, none⟩) n cap, .int .i64 a.kind, .int .i64 a.at_, .int .u64 a.x, .int .u64 a.y, .int .u64 a.old]

/-- The document's hand at block r, its words in block rd. -/
structure RAt (w : World) (r rd cap : Nat) (ext : List Value) (s : HS) : Prop where
  blk : Blk w r 152 (rcs rd s.ws.length cap s.c s.acc)
  ar : DAt w rd s.ws ext
  n1 : r ≠ rd
  right : s.c.Right
  len : (s.ws.length : Int) = s.c.words

section
variable {w w' : World} {r rd cap : Nat} {ext : List Value} {s : HS}
theorem RAt.kept {S : List Nat} (H : RAt w r rd cap ext s) (f : Fr S w w') (h1 : r ∉ S) (h3 : rd ∉ S) : RAt w' r rd cap ext s := ⟨H.blk.kept f h1, H.ar.kept f h3, H.n1, H.right, H.len⟩
theorem RAt.kept0 (H : RAt w r rd cap ext s) (f : Fr [] w w') : RAt w' r rd cap ext s := H.kept f (by simp) (by simp)
theorem RAt.alloc (H : RAt w r rd cap ext s) (o : Obj) : RAt (w.alloc o) r rd cap ext s := ⟨H.blk.alloc o, H.ar.alloc o, H.n1, H.right, H.len⟩
theorem RAt.drew (H : RAt w r rd cap ext s) : RAt w.drew r rd cap ext s := ⟨H.blk, H.ar.drew, H.n1, H.right, H.len⟩
theorem RAt.other (H : RAt w r rd cap ext s) {p : Addr} (h0 : r ≠ p.block) (h2 : rd ≠ p.block) (u : Value) : RAt (w.setCell p u) r rd cap ext s := ⟨H.blk.other h0 u, H.ar.other h2 u, H.n1, H.right, H.len⟩
end

set_option maxHeartbeats 2000000 in
theorem rhdo_any {w : World} {r rd cap : Nat} {ext : List Value} {s : HS} (H : RAt w r rd cap ext s) (a : Acc) (hx : 0 ≤ a.x ∧ a.x < 18446744073709551616) (hy : 0 ≤ a.y ∧ a.y < 18446744073709551616) :
    Calls Try.prog 160 #[.pointer (some ⟨r, 0, none⟩), a.val] w fun e w' => e = .returned (.int .u64 (a.done s.ws).old) ∧ (RAt w' r rd cap ext ⟨s.c, a.ws s.ws, a.done s.ws⟩ ∧ Fr [r, rd] w w') := by
  have HD := fun W (hA : DAt W rd s.ws ext) => rdo (cap := cap) hA a hx hy
  obtain ⟨k, i, x, y, o⟩ := a
  clear hx hy
  obtain ⟨c, ws, acc⟩ := s
  obtain ⟨B, A, n1, R, L⟩ := H
  simp only at B A R L HD
  obtain ⟨q, hq⟩ : ∃ q, q = Acc.done ⟨k, i, x, y, o⟩ ws := ⟨_, rfl⟩
  obtain ⟨ok, hok⟩ : ∃ ok, ok = Acc.ok ⟨k, i, x, y, o⟩ ws := ⟨_, rfl⟩
  have hl := Acc.ws_length ⟨k, i, x, y, o⟩ ws
  obtain ⟨ws', hws⟩ : ∃ ws', ws' = Acc.ws ⟨k, i, x, y, o⟩ ws := ⟨_, rfl⟩
  simp only at hq hok hws ⊢
  rw [← hws] at hl
  simp only [← hq, ← hok, ← hws] at HD ⊢
  have HL : Hid ((ws'.length : Int) = c.words) := by rw [hl]; exact L
  have HN := hid hl
  have HX := hid HD
  clear hq hok hws hl HD L
  obtain ⟨qk, qi, qx, qy, qo⟩ := q
  have hb := B.lt
  have kb := B.cell
  have nd' : ¬ w.heap.size = rd := by have := A.dat.lt; omega
  have nh : ¬ r = w.heap.size := by omega
  have nh' : ¬ w.heap.size = r := by omega
  have nr2 : r ≠ w.heap.size + 1 := by omega
  have n1' : rd ≠ r := n1.symm
  have nd3 : rd ≠ w.heap.size + 1 := by have := A.dat.lt; omega
  have HF := hid ((Fr.refl [r, rd] w).alloc (.cells #[.int .i64 k, .int .i64 i, .int .u64 x, .int .u64 y, .int .u64 o] 38))
  go_enter Try.func160, Try.ntmps160
  have nd2 : ¬ w.heap.size + 1 = rd := by have := A.dat.lt; omega
  go_wp2_with fail
  go_region_with (first | (go_at_call 105; first | (refine (HX.out _ (A.alloc _).drew).mono ?_; rintro e w2 ⟨rfl, hA2, hF2⟩; (have hB2 := ((B.alloc _).drew).kept hF2 (by simpa using n1)); (have k2 := hB2.cell); (have f2 := hB2.free); (have lB2 := hB2.lt); (have lA2 := hA2.dat.lt)) | (refine (HX.out _ ((A.alloc _).alloc _).drew).mono ?_; rintro e w2 ⟨rfl, hA2, hF2⟩; (have hB2 := (((B.alloc _).alloc _).drew).kept hF2 (by simpa using n1)); (have hD2 := (Blk.new (w.alloc (.cells #[.int .i64 k, .int .i64 i, .int .u64 x, .int .u64 y, .int .u64 o] 38)) _ _).drew.kept hF2 (by simpa using nd2)); (simp only [World.size_alloc] at hD2); (have kD := hD2.cell); (have fD := hD2.free); (have k2 := hB2.cell); (have f2 := hB2.free); (have lB2 := hB2.lt); (have lA2 := hA2.dat.lt))))
  all_goals go_wp2
  all_goals
    go_ret
    refine ⟨rfl, ⟨?_, ?_, n1, R, HL.out⟩, ?_⟩
    · show Blk _ r 152 (rcs rd ws'.length cap c ⟨qk, qi, qx, qy, qo⟩)
      rw [HN.out]
      have hB3 := hB2
      have zA := ((((hB2.set 5 (.int .i64 qk)).set 6 (.int .i64 qi)).set 7 (.int .u64 qx)).set 8 (.int .u64 qy)).set 9 (.int .u64 qo)
      have zC := (((((((((hB2.other nr2 (p := ⟨w.heap.size + 1, 0, none⟩) (.int .i64 qk)).other nr2 (p := ⟨w.heap.size + 1, 1, none⟩) (.int .i64 qi)).other nr2 (p := ⟨w.heap.size + 1, 2, none⟩) (.int .u64 qx)).other nr2 (p := ⟨w.heap.size + 1, 3, none⟩) (.int .u64 qy)).other nr2 (p := ⟨w.heap.size + 1, 4, none⟩) (.int .u64 qo)).set 5 (.int .i64 qk)).set 6 (.int .i64 qi)).set 7 (.int .u64 qx)).set 8 (.int .u64 qy)).set 9 (.int .u64 qo)
      simp only [rcs, List.set_cons_zero, List.set_cons_succ] at zA zC
      first | (with_reducible exact zC) | (with_reducible refine Blk.alloc ?_ _; with_reducible exact zA)
    · repeat (first | with_reducible exact hA2 | with_reducible refine DAt.alloc ?_ _ | with_reducible refine DAt.other ?_ n1' _ | with_reducible refine DAt.other ?_ nd3 _)
    · have hF3 : Fr [r, rd] w w2 := by first | exact HF.out.drew.trans (hF2.mono (by simp)) | exact ((HF.out.alloc _).drew).trans (hF2.mono (by simp))
      repeat (first | with_reducible exact hF3 | with_reducible refine Fr.alloc ?_ _ | with_reducible refine Fr.setNew ?_ (Nat.le_succ _) _ | with_reducible refine Fr.setCell ?_ (by simp) _)
theorem rhload_any {w : World} {r rd cap : Nat} {ext : List Value} {s : HS} (H : RAt w r rd cap ext s) (i : Int) :
    Calls Try.prog 132 #[.pointer (some ⟨r, 0, none⟩), .int .i64 i] w fun e w' => e = .returned (.int .u64 (wAt s.ws i)) ∧ (RAt w' r rd cap ext (s.doIt (aLoad i)) ∧ Fr [r, rd] w w') := by
  have HD := rhdo_any H (aLoad i) (by simp [aLoad]) (by simp [aLoad])
  have e1 : ((aLoad i).done s.ws).old = wAt s.ws i := by
    unfold Acc.done Acc.ok wAt aLoad
    by_cases hr : 0 ≤ i ∧ i < s.ws.length
    · simp [hr]
    · have : ¬ (0 ≤ i ∧ i < ↑s.ws.length) := hr
      simp only [this, if_false]
      split
      · rename_i hh; simp at hh; omega
      · rfl
  rw [e1] at HD
  obtain ⟨z, hz⟩ : ∃ z, z = wAt s.ws i := ⟨_, rfl⟩
  rw [← hz] at HD ⊢
  have HX := hid HD
  clear HD e1 hz
  go_enter Try.func132, Try.ntmps132
  go_wp2_with fail
  refine HX.out.mono ?_
  rintro e w' ⟨rfl, h1, h2⟩
  go_wp2
  go_ret
  exact ⟨rfl, h1, h2⟩


theorem rhstore_any {w : World} {r rd cap : Nat} {ext : List Value} {s : HS} (H : RAt w r rd cap ext s) (i x : Int) (hx : 0 ≤ x ∧ x < 18446744073709551616) :
    Calls Try.prog 134 #[.pointer (some ⟨r, 0, none⟩), .int .i64 i, .int .u64 x] w fun e w' => e = .returned (.tuple #[]) ∧ (RAt w' r rd cap ext (s.doIt (aStore i x)) ∧ Fr [r, rd] w w') := by
  have HX := hid (rhdo_any H (aStore i x) hx (by simp [aStore]))
  clear hx
  go_enter Try.func134, Try.ntmps134
  go_wp2_with fail
  refine HX.out.mono ?_
  rintro e w' ⟨rfl, h1, h2⟩
  go_wp2
  go_end0
  exact ⟨rfl, h1, h2⟩


theorem rhcas_any {w : World} {r rd cap : Nat} {ext : List Value} {s : HS} (H : RAt w r rd cap ext s) (i x y : Int) (hx : 0 ≤ x ∧ x < 18446744073709551616) (hy : 0 ≤ y ∧ y < 18446744073709551616) :
    Calls Try.prog 144 #[.pointer (some ⟨r, 0, none⟩), .int .i64 i, .int .u64 x, .int .u64 y] w fun e w' => e = .returned (.bool (s.won i x)) ∧ (RAt w' r rd cap ext (s.doIt (aCas i x y)) ∧ Fr [r, rd] w w') := by
  have HD := rhdo_any H (aCas i x y) hx hy
  clear hx hy
  by_cases hr : 0 ≤ i ∧ i < s.ws.length
  · have e1 : (aCas i x y).done s.ws = ⟨3, i, x, y, wAt s.ws i⟩ := by simp [Acc.done, Acc.ok, aCas, hr]
    have e2 : (aCas i x y).ok s.ws = true := by simp [Acc.ok, aCas, hr]
    have e3 : s.won i x = (wAt s.ws i == x) := by rw [Bool.eq_iff_iff]; simp [HS.won, hr]
    rw [e3]
    have e4 : s.doIt (aCas i x y) = ⟨s.c, (aCas i x y).ws s.ws, ⟨3, i, x, y, wAt s.ws i⟩⟩ := by rw [← e1]; rfl
    rw [e4]
    rw [e1] at HD
    clear e1 e2 e3 e4
    obtain ⟨z, hz⟩ : ∃ z, z = wAt s.ws i := ⟨_, rfl⟩
    rw [← hz] at HD ⊢
    have HX := hid HD
    clear HD hz
    go_enter Try.func144, Try.ntmps144
    go_wp2_with fail
    refine HX.out.mono ?_
    rintro e w' ⟨rfl, h1, h2⟩
    have k := h1.blk.cell
    go_wp2
    go_ret
    exact ⟨rfl, h1, h2⟩
  · have e2 : (aCas i x y).ok s.ws = false := by simp only [Acc.ok, aCas]; rw [Bool.eq_false_iff]; intro hh; simp only [Bool.and_eq_true] at hh; exact hr ⟨of_decide_eq_true hh.1.2, of_decide_eq_true hh.2⟩
    have e1 : (aCas i x y).done s.ws = Acc.z := by simp [Acc.done, e2]
    have e3 : s.won i x = false := by simp only [HS.won]; rw [Bool.eq_false_iff]; intro hh; simp only [Bool.and_eq_true, decide_eq_true_eq] at hh; omega
    rw [e3]
    have e4 : s.doIt (aCas i x y) = ⟨s.c, (aCas i x y).ws s.ws, Acc.z⟩ := by rw [← e1]; rfl
    rw [e4]
    rw [e1] at HD
    clear e1 e2 e3 e4
    have HX := hid HD
    clear HD
    go_enter Try.func144, Try.ntmps144
    go_wp2_with fail
    refine HX.out.mono ?_
    rintro e w' ⟨rfl, h1, h2⟩
    have k := h1.blk.cell
    go_wp2
    go_ret
    exact ⟨rfl, h1, h2⟩


end Go.Proofs.Yteggckdgjecfmaa
