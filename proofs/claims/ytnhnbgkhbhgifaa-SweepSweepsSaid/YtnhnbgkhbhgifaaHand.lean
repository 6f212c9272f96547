/- Package hand: what each call does to the words and to the noted access. -/
import Derived.Test.YtnhnbgkhbhgifaaPlain
import Derived.Test.YtnhnbgkhbhgifaaDo
import Derived.Test.YtnhnbgkhbhgifaaPlace
import Derived.Test.YtnhnbgkhbhgifaaWord
namespace Go.Proofs.Ytnhnbgkhbhgifaa
open Go.RowKit
set_option linter.unusedVariables false
set_option linter.unusedSimpArgs false


/-- A hand's block. -/
abbrev hcs (ab : Nat) (c : Cfg) (a : Acc) : List Value := [.pointer (some ⟨ab, 0, none⟩), .int .i64 c.cells, .int .i64 c.muts, .int .i64 c.regs, .int .i64 c.globs, .int .i64 a.kind, .int .i64 a.at_, .int .u64 a.x, .int .u64 a.y, .int .u64 a.old]

structure HAt (w : World) (h ab db : Nat) (s : HS) : Prop where
  blk : Blk w h 75 (hcs ab s.c s.acc)
  ar : AAt w ab db s.ws
  n1 : h ≠ ab
  n2 : h ≠ db
  right : s.c.Right
  len : (s.ws.length : Int) = s.c.words

section
variable {w w' : World} {h ab db : Nat} {s : HS}
theorem HAt.kept {S : List Nat} (H : HAt w h ab db s) (f : Fr S w w') (h1 : h ∉ S) (h2 : ab ∉ S) (h3 : db ∉ S) : HAt w' h ab db s := ⟨H.blk.kept f h1, H.ar.kept f h2 h3, H.n1, H.n2, H.right, H.len⟩
theorem HAt.kept0 (H : HAt w h ab db s) (f : Fr [] w w') : HAt w' h ab db s := H.kept f (by simp) (by simp) (by simp)
theorem HAt.alloc (H : HAt w h ab db s) (o : Obj) : HAt (w.alloc o) h ab db s := ⟨H.blk.alloc o, H.ar.alloc o, H.n1, H.n2, H.right, H.len⟩
theorem HAt.drew (H : HAt w h ab db s) : HAt w.drew h ab db s := ⟨H.blk, H.ar.drew, H.n1, H.n2, H.right, H.len⟩
theorem HAt.other (H : HAt w h ab db s) {p : Addr} (h0 : h ≠ p.block) (h1 : ab ≠ p.block) (h2 : db ≠ p.block) (u : Value) : HAt (w.setCell p u) h ab db s := ⟨H.blk.other h0 u, H.ar.other h1 h2 u, H.n1, H.n2, H.right, H.len⟩
end

theorem Acc.ws_length (a : Acc) (ws : List Int) : (a.ws ws).length = ws.length := by unfold Acc.ws; split <;> simp

theorem do_any {w : World} {h ab db : Nat} {s : HS} (H : HAt w h ab db s) (a : Acc) (hx : 0 ≤ a.x ∧ a.x < 18446744073709551616) (hy : 0 ≤ a.y ∧ a.y < 18446744073709551616) :
    Calls Try.prog 147 #[.pointer (some ⟨h, 0, none⟩), a.val] w fun e w' => e = .returned (.int .u64 (a.done s.ws).old) ∧ (HAt w' h ab db ⟨s.c, a.ws s.ws, a.done s.ws⟩ ∧ Fr [h, db] w w') := by
  have HD := fun W (hA : AAt W ab db s.ws) => ado hA a hx hy
  obtain ⟨k, i, x, y, o⟩ := a
  clear hx hy
  obtain ⟨c, ws, acc⟩ := s
  obtain ⟨B, A, n1, n2, R, L⟩ := H
  simp only at B A R L HD
  obtain ⟨q, hq⟩ : ∃ q, q = Acc.done ⟨k, i, x, y, o⟩ ws := ⟨_, rfl⟩
  obtain ⟨ok, hok⟩ : ∃ ok, ok = Acc.ok ⟨k, i, x, y, o⟩ ws := ⟨_, rfl⟩
  have hl := Acc.ws_length ⟨k, i, x, y, o⟩ ws
  obtain ⟨ws', hws⟩ : ∃ ws', ws' = Acc.ws ⟨k, i, x, y, o⟩ ws := ⟨_, rfl⟩
  simp only at hq hok hws ⊢
  rw [← hws] at hl
  simp only [← hq, ← hok, ← hws] at HD ⊢
  have HL : Hid ((ws'.length : Int) = c.words) := by rw [hl]; exact L
  have HX := hid HD
  clear hq hok hws hl HD L
  obtain ⟨qk, qi, qx, qy, qo⟩ := q
  have hb := B.lt
  have kb := B.cell
  have fb : ∀ (o : Obj) (i : Nat), (w.alloc o).frozen? ⟨h, i, none⟩ = false := fun o => (B.alloc o).free
  have nd' : ¬ w.heap.size = db := by have := A.dat.lt; omega
  have nh : ¬ h = w.heap.size := by omega
  have nh' : ¬ w.heap.size = h := by omega
  go_enter Try.func147, Try.ntmps147
  go_wp2_with fail
  go_region_with (first | (go_at_call 90; refine (HX.out _ (A.alloc _).drew).mono ?_; rintro e w2 ⟨rfl, hA2, hF2⟩; (have hB2 := ((B.alloc _).drew.kept hF2 (by simpa using n2)); (have k2 := hB2.cell); (have f2 := hB2.free)); (have hC2 := ((Blk.new w [.int .i64 k, .int .i64 i, .int .u64 x, .int .u64 y, .int .u64 o] 38).drew.kept hF2 (by simpa using nd')); (have k3 := hC2.cell))))
  all_goals
    have zB := ((((hB2.set 5 (.int .i64 qk)).set 6 (.int .i64 qi)).set 7 (.int .u64 qx)).set 8 (.int .u64 qy)).set 9 (.int .u64 qo)
    simp only [hcs, List.set_cons_zero, List.set_cons_succ] at zB
    have z := zB.cell 9
    go_wp2
    go_ret
    exact ⟨rfl, ⟨zB, ((((hA2.other n1.symm n2.symm _).other n1.symm n2.symm _).other n1.symm n2.symm _).other n1.symm n2.symm _).other n1.symm n2.symm _, n1, n2, R, HL.out⟩, (((((((Fr.refl [h, db] w).alloc _).drew).trans (hF2.mono (by simp))).setCell (by simp) _).setCell (by simp) _).setCell (by simp) _).setCell (by simp) _ |>.setCell (by simp) _⟩

theorem Acc.done_old_bd {w : World} {ab db : Nat} {ws : List Int} (h : AAt w ab db ws) (a : Acc) : 0 ≤ (a.done ws).old ∧ (a.done ws).old < 18446744073709551616 := by
  unfold Acc.done
  split
  · exact h.bd _
  · simp [Acc.z]


theorem hload_any {w : World} {h ab db : Nat} {s : HS} (H : HAt w h ab db s) (i : Int) :
    Calls Try.prog 101 #[.pointer (some ⟨h, 0, none⟩), .int .i64 i] w fun e w' => e = .returned (.int .u64 (wAt s.ws i)) ∧ (HAt w' h ab db (s.doIt (aLoad i)) ∧ Fr [h, db] w w') := by
  have HD := do_any H (aLoad i) (by simp [aLoad]) (by simp [aLoad])
  have e1 : ((aLoad i).done s.ws).old = wAt s.ws i := by
    unfold Acc.done Acc.ok wAt aLoad
    by_cases hr : 0 ≤ i ∧ i < s.ws.length
    · simp [hr]
    · have : ¬ (0 ≤ i ∧ i < ↑s.ws.length) := hr
      simp only [this, if_false]
      split
      · rename_i hh; simp at hh; omega
      · rfl
  rw [e1] at HD
  obtain ⟨z, hz⟩ : ∃ z, z = wAt s.ws i := ⟨_, rfl⟩
  rw [← hz] at HD ⊢
  have HX := hid HD
  clear HD e1 hz
  go_enter Try.func101, Try.ntmps101
  go_wp2_with fail
  refine HX.out.mono ?_
  rintro e w' ⟨rfl, h1, h2⟩
  go_wp2
  go_ret
  exact ⟨rfl, h1, h2⟩

theorem hstore_any {w : World} {h ab db : Nat} {s : HS} (H : HAt w h ab db s) (i x : Int) (hx : 0 ≤ x ∧ x < 18446744073709551616) :
    Calls Try.prog 103 #[.pointer (some ⟨h, 0, none⟩), .int .i64 i, .int .u64 x] w fun e w' => e = .returned (.tuple #[]) ∧ (HAt w' h ab db (s.doIt (aStore i x)) ∧ Fr [h, db] w w') := by
  have HX := hid (do_any H (aStore i x) hx (by simp [aStore]))
  clear hx
  go_enter Try.func103, Try.ntmps103
  go_wp2_with fail
  refine HX.out.mono ?_
  rintro e w' ⟨rfl, h1, h2⟩
  go_wp2
  go_end0
  exact ⟨rfl, h1, h2⟩

theorem hadd_any {w : World} {h ab db : Nat} {s : HS} (H : HAt w h ab db s) (i x : Int) (hx : 0 ≤ x ∧ x < 18446744073709551616) :
    Calls Try.prog 100 #[.pointer (some ⟨h, 0, none⟩), .int .i64 i, .int .u64 x] w fun e w' => e = .returned (.int .u64 (wAt s.ws i)) ∧ (HAt w' h ab db (s.doIt (aAdd i x)) ∧ Fr [h, db] w w') := by
  have HD := do_any H (aAdd i x) hx (by simp [aAdd])
  clear hx
  have e1 : ((aAdd i x).done s.ws).old = wAt s.ws i := by
    unfold Acc.done Acc.ok wAt aAdd
    by_cases hr : 0 ≤ i ∧ i < s.ws.length
    · simp [hr]
    · have : ¬ (0 ≤ i ∧ i < ↑s.ws.length) := hr
      simp only [this, if_false]
      split
      · rename_i hh; simp at hh; omega
      · rfl
  rw [e1] at HD
  obtain ⟨z, hz⟩ : ∃ z, z = wAt s.ws i := ⟨_, rfl⟩
  rw [← hz] at HD ⊢
  have HX := hid HD
  clear HD e1 hz
  go_enter Try.func100, Try.ntmps100
  go_wp2_with fail
  refine HX.out.mono ?_
  rintro e w' ⟨rfl, h1, h2⟩
  go_wp2
  go_ret
  exact ⟨rfl, h1, h2⟩

theorem hcas_any {w : World} {h ab db : Nat} {s : HS} (H : HAt w h ab db s) (i x y : Int) (hx : 0 ≤ x ∧ x < 18446744073709551616) (hy : 0 ≤ y ∧ y < 18446744073709551616) :
    Calls Try.prog 172 #[.pointer (some ⟨h, 0, none⟩), .int .i64 i, .int .u64 x, .int .u64 y] w fun e w' => e = .returned (.bool (s.won i x)) ∧ (HAt w' h ab db (s.doIt (aCas i x y)) ∧ Fr [h, db] w w') := by
  have HD := do_any H (aCas i x y) hx hy
  clear hx hy
  by_cases hr : 0 ≤ i ∧ i < s.ws.length
  · have e1 : (aCas i x y).done s.ws = ⟨3, i, x, y, wAt s.ws i⟩ := by simp [Acc.done, Acc.ok, aCas, hr]
    have e2 : (aCas i x y).ok s.ws = true := by simp [Acc.ok, aCas, hr]
    have e3 : s.won i x = (wAt s.ws i == x) := by rw [Bool.eq_iff_iff]; simp [HS.won, hr]
    rw [e3]
    have e4 : s.doIt (aCas i x y) = ⟨s.c, (aCas i x y).ws s.ws, ⟨3, i, x, y, wAt s.ws i⟩⟩ := by rw [← e1]; rfl
    rw [e4]
    rw [e1] at HD
    clear e1 e2 e3 e4
    obtain ⟨z, hz⟩ : ∃ z, z = wAt s.ws i := ⟨_, rfl⟩
    rw [← hz] at HD ⊢
    have HX := hid HD
    clear HD hz
    go_enter Try.func172, Try.ntmps172
    go_wp2_with fail
    refine HX.out.mono ?_
    rintro e w' ⟨rfl, h1, h2⟩
    have k := h1.blk.cell
    go_wp2
    go_ret
    exact ⟨rfl, h1, h2⟩
  · have e2 : (aCas i x y).ok s.ws = false := by simp only [Acc.ok, aCas]; rw [Bool.eq_false_iff]; intro hh; simp only [Bool.and_eq_true] at hh; exact hr ⟨of_decide_eq_true hh.1.2, of_decide_eq_true hh.2⟩
    have e1 : (aCas i x y).done s.ws = Acc.z := by simp [Acc.done, e2]
    have e3 : s.won i x = false := by simp only [HS.won]; rw [Bool.eq_false_iff]; intro hh; simp only [Bool.and_eq_true, decide_eq_true_eq] at hh; omega
    rw [e3]
    have e4 : s.doIt (aCas i x y) = ⟨s.c, (aCas i x y).ws s.ws, Acc.z⟩ := by rw [← e1]; rfl
    rw [e4]
    rw [e1] at HD
    clear e1 e2 e3 e4
    have HX := hid HD
    clear HD
    go_enter Try.func172, Try.ntmps172
    go_wp2_with fail
    refine HX.out.mono ?_
    rintro e w' ⟨rfl, h1, h2⟩
    have k := h1.blk.cell
    go_wp2
    go_ret
    exact ⟨rfl, h1, h2⟩

end Go.Proofs.Ytnhnbgkhbhgifaa
