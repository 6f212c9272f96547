/- collector.layers, collector.Step. -/
import Derived.Test.YteggckdgjecfmaaRootsAny
import Derived.Test.YteggckdgjecfmaaPaAny
import Derived.Test.YteggckdgjecfmaaSweepAny
import Derived.Test.YteggckdgjecfmaaCBox
import Derived.Laws.EntriesVeiled
namespace Go.Proofs.Yteggckdgjecfmaa
open Go.RowKit
set_option linter.unusedVariables false
set_option linter.unusedSimpArgs false

set_option maxRecDepth 100000 in
set_option maxHeartbeats 4000000 in
theorem layer0_any {w : World} {h ab db : Nat} {s : HS} (H : HAt w h ab db s) (x : ColV) (hx : x.Wf) (hn : x.Near) :
    Calls Try.prog 162 #[.pointer (some ⟨h, 0, none⟩), x.val] w fun e w' => e = .returned (.tuple #[(rsM s x).x.val, .int .i64 0, .bool (rsM s x).is]) ∧ HAt w' h ab db (rsM s x).s ∧ Fr [h, db] w w' := by
  have HX := fun W (H : HAt W h ab db s) => rs_any H x hx hn
  obtain ⟨res, hres⟩ : ∃ r, r = (rsM s x) := ⟨_, rfl⟩
  rw [← hres] at HX ⊢
  clear hres hx hn
  obtain ⟨⟨line2, j2, c2, m2, a2, p2, found2, tail2, cyc2⟩, is2, s2⟩ := res
  obtain ⟨line, j, c, m, a, p, found, tail, cyc⟩ := x
  simp only [ColV.val] at HX ⊢
  replace HX := hid HX
  have n0 := H.blk.lt
  have n1 := H.ar.dat.lt
  have n2 := H.ar.hdr.lt
  have hX := (Blk.new w [.int .i64 (line), .int .i64 (j), .int .i64 (c), .int .i64 (m), .int .u64 (a), .int .u64 (p), .bool (found), .int .i64 (tail), .int .i64 (cyc)] 86).alloc (.cells #[.int .i64 (0), .int .i64 (0), .int .i64 (0), .int .i64 (0), .int .u64 (0), .int .u64 (0), .bool (false), .int .i64 (0), .int .i64 (0)] 86)
  have hR := Blk.new (w.alloc (.cells #[.int .i64 (line), .int .i64 (j), .int .i64 (c), .int .i64 (m), .int .u64 (a), .int .u64 (p), .bool (found), .int .i64 (tail), .int .i64 (cyc)] 86)) zCol 86
  simp only [World.size_alloc] at hR
  have HH := (H.alloc (.cells #[.int .i64 (line), .int .i64 (j), .int .i64 (c), .int .i64 (m), .int .u64 (a), .int .u64 (p), .bool (found), .int .i64 (tail), .int .i64 (cyc)] 86)).alloc (.cells #[.int .i64 (0), .int .i64 (0), .int .i64 (0), .int .i64 (0), .int .u64 (0), .int .u64 (0), .bool (false), .int .i64 (0), .int .i64 (0)] 86)
  have hFF := ((Fr.refl [h, db] w).alloc (.cells #[.int .i64 (line), .int .i64 (j), .int .i64 (c), .int .i64 (m), .int .u64 (a), .int .u64 (p), .bool (found), .int .i64 (tail), .int .i64 (cyc)] 86)).alloc (.cells #[.int .i64 (0), .int .i64 (0), .int .i64 (0), .int .i64 (0), .int .u64 (0), .int .u64 (0), .bool (false), .int .i64 (0), .int .i64 (0)] 86)
  have hXn : w.heap.size ∉ [h, db] := by simp; omega
  have hRn : w.heap.size + 1 ∉ [h, db] := by simp; omega
  have b1 : h ≠ w.heap.size + 1 := by omega
  have b2 : db ≠ w.heap.size + 1 := by omega
  have b3 : ab ≠ w.heap.size + 1 := by omega
  clear H
  simp only [zCol] at hR
  go_enter Try.func162, Try.ntmps162
  go_wp2_with (first | (go_at_call 74; refine (HX.out _ HH).mono ?_; rintro e w2 ⟨rfl, HH, hF2⟩; (replace hX := hX.kept hF2 hXn); (replace hR := hR.kept hF2 hRn); (replace hFF := hFF.trans hF2); (have lR := hR.lt); (have hY := Blk.new w2 [.int .i64 (line2), .int .i64 (j2), .int .i64 (c2), .int .i64 (m2), .int .u64 (a2), .int .u64 (p2), .bool (found2), .int .i64 (tail2), .int .i64 (cyc2)] 86); (have kY := hY.cell); (have hR2 := hR.alloc (.cells #[.int .i64 (line2), .int .i64 (j2), .int .i64 (c2), .int .i64 (m2), .int .u64 (a2), .int .u64 (p2), .bool (found2), .int .i64 (tail2), .int .i64 (cyc2)] 86)); (have kR := hR2.cell); (have fR := hR2.free); (have kR0 := hR.cell); (have fR0 := hR.free)))
  have hZ := (hR.set9 (.int .i64 (line2)) (.int .i64 (j2)) (.int .i64 (c2)) (.int .i64 (m2)) (.int .u64 (a2)) (.int .u64 (p2)) (.bool (found2)) (.int .i64 (tail2)) (.int .i64 (cyc2))).alloc (.cells #[.int .i64 (line2), .int .i64 (j2), .int .i64 (c2), .int .i64 (m2), .int .u64 (a2), .int .u64 (p2), .bool (found2), .int .i64 (tail2), .int .i64 (cyc2)] 86)
  have kZ := hZ.cell
  refine bodyPost_ret (v := .tuple #[.agg #[.int .i64 (line2), .int .i64 (j2), .int .i64 (c2), .int .i64 (m2), .int .u64 (a2), .int .u64 (p2), .bool (found2), .int .i64 (tail2), .int .i64 (cyc2)], .int .i64 0, .bool is2]) (by simp [results, Try.results162, go_sem, kZ]) rfl ⟨rfl, ?_, ?_⟩
  · repeat (first | with_reducible exact HH | with_reducible refine HAt.alloc ?_ _ | with_reducible refine HAt.other ?_ b1 b3 b2 _)
  · repeat (first | with_reducible exact hFF | with_reducible refine Fr.alloc ?_ _ | with_reducible refine Fr.setNew ?_ (Nat.le_succ _) _)

set_option maxRecDepth 100000 in
set_option maxHeartbeats 4000000 in
theorem layer1_any {w : World} {h ab db : Nat} {s : HS} (H : HAt w h ab db s) (x : ColV) (hx : x.Wf) (hn : x.Near) :
    Calls Try.prog 163 #[.pointer (some ⟨h, 0, none⟩), x.val] w fun e w' => e = .returned (.tuple #[(passM s x).x.val, .int .i64 0, .bool (passM s x).is]) ∧ HAt w' h ab db (passM s x).s ∧ Fr [h, db] w w' := by
  have HX := fun W (H : HAt W h ab db s) => pa_any H x hx hn
  obtain ⟨res, hres⟩ : ∃ r, r = (passM s x) := ⟨_, rfl⟩
  rw [← hres] at HX ⊢
  clear hres hx hn
  obtain ⟨⟨line2, j2, c2, m2, a2, p2, found2, tail2, cyc2⟩, is2, s2⟩ := res
  obtain ⟨line, j, c, m, a, p, found, tail, cyc⟩ := x
  simp only [ColV.val] at HX ⊢
  replace HX := hid HX
  have n0 := H.blk.lt
  have n1 := H.ar.dat.lt
  have n2 := H.ar.hdr.lt
  have hX := (Blk.new w [.int .i64 (line), .int .i64 (j), .int .i64 (c), .int .i64 (m), .int .u64 (a), .int .u64 (p), .bool (found), .int .i64 (tail), .int .i64 (cyc)] 86).alloc (.cells #[.int .i64 (0), .int .i64 (0), .int .i64 (0), .int .i64 (0), .int .u64 (0), .int .u64 (0), .bool (false), .int .i64 (0), .int .i64 (0)] 86)
  have hR := Blk.new (w.alloc (.cells #[.int .i64 (line), .int .i64 (j), .int .i64 (c), .int .i64 (m), .int .u64 (a), .int .u64 (p), .bool (found), .int .i64 (tail), .int .i64 (cyc)] 86)) zCol 86
  simp only [World.size_alloc] at hR
  have HH := (H.alloc (.cells #[.int .i64 (line), .int .i64 (j), .int .i64 (c), .int .i64 (m), .int .u64 (a), .int .u64 (p), .bool (found), .int .i64 (tail), .int .i64 (cyc)] 86)).alloc (.cells #[.int .i64 (0), .int .i64 (0), .int .i64 (0), .int .i64 (0), .int .u64 (0), .int .u64 (0), .bool (false), .int .i64 (0), .int .i64 (0)] 86)
  have hFF := ((Fr.refl [h, db] w).alloc (.cells #[.int .i64 (line), .int .i64 (j), .int .i64 (c), .int .i64 (m), .int .u64 (a), .int .u64 (p), .bool (found), .int .i64 (tail), .int .i64 (cyc)] 86)).alloc (.cells #[.int .i64 (0), .int .i64 (0), .int .i64 (0), .int .i64 (0), .int .u64 (0), .int .u64 (0), .bool (false), .int .i64 (0), .int .i64 (0)] 86)
  have hXn : w.heap.size ∉ [h, db] := by simp; omega
  have hRn : w.heap.size + 1 ∉ [h, db] := by simp; omega
  have b1 : h ≠ w.heap.size + 1 := by omega
  have b2 : db ≠ w.heap.size + 1 := by omega
  have b3 : ab ≠ w.heap.size + 1 := by omega
  clear H
  simp only [zCol] at hR
  go_enter Try.func163, Try.ntmps163
  go_wp2_with (first | (go_at_call 78; refine (HX.out _ HH).mono ?_; rintro e w2 ⟨rfl, HH, hF2⟩; (replace hX := hX.kept hF2 hXn); (replace hR := hR.kept hF2 hRn); (replace hFF := hFF.trans hF2); (have lR := hR.lt); (have hY := Blk.new w2 [.int .i64 (line2), .int .i64 (j2), .int .i64 (c2), .int .i64 (m2), .int .u64 (a2), .int .u64 (p2), .bool (found2), .int .i64 (tail2), .int .i64 (cyc2)] 86); (have kY := hY.cell); (have hR2 := hR.alloc (.cells #[.int .i64 (line2), .int .i64 (j2), .int .i64 (c2), .int .i64 (m2), .int .u64 (a2), .int .u64 (p2), .bool (found2), .int .i64 (tail2), .int .i64 (cyc2)] 86)); (have kR := hR2.cell); (have fR := hR2.free); (have kR0 := hR.cell); (have fR0 := hR.free)))
  have hZ := (hR.set9 (.int .i64 (line2)) (.int .i64 (j2)) (.int .i64 (c2)) (.int .i64 (m2)) (.int .u64 (a2)) (.int .u64 (p2)) (.bool (found2)) (.int .i64 (tail2)) (.int .i64 (cyc2))).alloc (.cells #[.int .i64 (line2), .int .i64 (j2), .int .i64 (c2), .int .i64 (m2), .int .u64 (a2), .int .u64 (p2), .bool (found2), .int .i64 (tail2), .int .i64 (cyc2)] 86)
  have kZ := hZ.cell
  refine bodyPost_ret (v := .tuple #[.agg #[.int .i64 (line2), .int .i64 (j2), .int .i64 (c2), .int .i64 (m2), .int .u64 (a2), .int .u64 (p2), .bool (found2), .int .i64 (tail2), .int .i64 (cyc2)], .int .i64 0, .bool is2]) (by simp [results, Try.results163, go_sem, kZ]) rfl ⟨rfl, ?_, ?_⟩
  · repeat (first | with_reducible exact HH | with_reducible refine HAt.alloc ?_ _ | with_reducible refine HAt.other ?_ b1 b3 b2 _)
  · repeat (first | with_reducible exact hFF | with_reducible refine Fr.alloc ?_ _ | with_reducible refine Fr.setNew ?_ (Nat.le_succ _) _)

set_option maxRecDepth 100000 in
set_option maxHeartbeats 4000000 in
theorem layer2_any {w : World} {h ab db : Nat} {s : HS} (H : HAt w h ab db s) (x : ColV) (hx : x.Wf) (hn : x.Near) :
    Calls Try.prog 164 #[.pointer (some ⟨h, 0, none⟩), x.val] w fun e w' => e = .returned (.tuple #[(barM s x).x.val, .int .i64 (if (barM s x).flip = true then 1 else 0), .bool (barM s x).is]) ∧ HAt w' h ab db (barM s x).s ∧ Fr [h, db] w w' := by
  have HX := fun W (H : HAt W h ab db s) => ba_any H x hx hn
  obtain ⟨res, hres⟩ : ∃ r, r = (barM s x) := ⟨_, rfl⟩
  rw [← hres] at HX ⊢
  clear hres hx hn
  obtain ⟨⟨line2, j2, c2, m2, a2, p2, found2, tail2, cyc2⟩, flip2, is2, s2⟩ := res
  obtain ⟨line, j, c, m, a, p, found, tail, cyc⟩ := x
  simp only [ColV.val] at HX ⊢
  replace HX := hid HX
  have n0 := H.blk.lt
  have n1 := H.ar.dat.lt
  have n2 := H.ar.hdr.lt
  have hX := (Blk.new w [.int .i64 (line), .int .i64 (j), .int .i64 (c), .int .i64 (m), .int .u64 (a), .int .u64 (p), .bool (found), .int .i64 (tail), .int .i64 (cyc)] 86).alloc (.cells #[.int .i64 (0), .int .i64 (0), .int .i64 (0), .int .i64 (0), .int .u64 (0), .int .u64 (0), .bool (false), .int .i64 (0), .int .i64 (0)] 86)
  have hR := Blk.new (w.alloc (.cells #[.int .i64 (line), .int .i64 (j), .int .i64 (c), .int .i64 (m), .int .u64 (a), .int .u64 (p), .bool (found), .int .i64 (tail), .int .i64 (cyc)] 86)) zCol 86
  simp only [World.size_alloc] at hR
  have HH := (H.alloc (.cells #[.int .i64 (line), .int .i64 (j), .int .i64 (c), .int .i64 (m), .int .u64 (a), .int .u64 (p), .bool (found), .int .i64 (tail), .int .i64 (cyc)] 86)).alloc (.cells #[.int .i64 (0), .int .i64 (0), .int .i64 (0), .int .i64 (0), .int .u64 (0), .int .u64 (0), .bool (false), .int .i64 (0), .int .i64 (0)] 86)
  have hFF := ((Fr.refl [h, db] w).alloc (.cells #[.int .i64 (line), .int .i64 (j), .int .i64 (c), .int .i64 (m), .int .u64 (a), .int .u64 (p), .bool (found), .int .i64 (tail), .int .i64 (cyc)] 86)).alloc (.cells #[.int .i64 (0), .int .i64 (0), .int .i64 (0), .int .i64 (0), .int .u64 (0), .int .u64 (0), .bool (false), .int .i64 (0), .int .i64 (0)] 86)
  have hXn : w.heap.size ∉ [h, db] := by simp; omega
  have hRn : w.heap.size + 1 ∉ [h, db] := by simp; omega
  have b1 : h ≠ w.heap.size + 1 := by omega
  have b2 : db ≠ w.heap.size + 1 := by omega
  have b3 : ab ≠ w.heap.size + 1 := by omega
  clear H
  simp only [zCol] at hR
  cases flip2
  · simp only [Bool.false_eq_true, if_false]
    go_enter Try.func164, Try.ntmps164
    go_wp2_with (first | (go_at_call 69; refine (HX.out _ HH).mono ?_; rintro e w2 ⟨rfl, HH, hF2⟩; (replace hX := hX.kept hF2 hXn); (replace hR := hR.kept hF2 hRn); (replace hFF := hFF.trans hF2); (have lR := hR.lt); (have hY := Blk.new w2 [.int .i64 (line2), .int .i64 (j2), .int .i64 (c2), .int .i64 (m2), .int .u64 (a2), .int .u64 (p2), .bool (found2), .int .i64 (tail2), .int .i64 (cyc2)] 86); (have kY := hY.cell); (have hR2 := hR.alloc (.cells #[.int .i64 (line2), .int .i64 (j2), .int .i64 (c2), .int .i64 (m2), .int .u64 (a2), .int .u64 (p2), .bool (found2), .int .i64 (tail2), .int .i64 (cyc2)] 86)); (have kR := hR2.cell); (have fR := hR2.free); (have kR0 := hR.cell); (have fR0 := hR.free)))
    have hZ := (hR.set9 (.int .i64 (line2)) (.int .i64 (j2)) (.int .i64 (c2)) (.int .i64 (m2)) (.int .u64 (a2)) (.int .u64 (p2)) (.bool (found2)) (.int .i64 (tail2)) (.int .i64 (cyc2))).alloc (.cells #[.int .i64 (line2), .int .i64 (j2), .int .i64 (c2), .int .i64 (m2), .int .u64 (a2), .int .u64 (p2), .bool (found2), .int .i64 (tail2), .int .i64 (cyc2)] 86)
    have kZ := hZ.cell
    refine bodyPost_ret (v := .tuple #[.agg #[.int .i64 (line2), .int .i64 (j2), .int .i64 (c2), .int .i64 (m2), .int .u64 (a2), .int .u64 (p2), .bool (found2), .int .i64 (tail2), .int .i64 (cyc2)], .int .i64 0, .bool is2]) (by simp [results, Try.results164, go_sem, kZ]) rfl ⟨rfl, ?_, ?_⟩
    · repeat (first | with_reducible exact HH | with_reducible refine HAt.alloc ?_ _ | with_reducible refine HAt.other ?_ b1 b3 b2 _)
    · repeat (first | with_reducible exact hFF | with_reducible refine Fr.alloc ?_ _ | with_reducible refine Fr.setNew ?_ (Nat.le_succ _) _)
  · simp only [if_true]
    go_enter Try.func164, Try.ntmps164
    go_wp2_with (first | (go_at_call 69; refine (HX.out _ HH).mono ?_; rintro e w2 ⟨rfl, HH, hF2⟩; (replace hX := hX.kept hF2 hXn); (replace hR := hR.kept hF2 hRn); (replace hFF := hFF.trans hF2); (have lR := hR.lt); (have hY := Blk.new w2 [.int .i64 (line2), .int .i64 (j2), .int .i64 (c2), .int .i64 (m2), .int .u64 (a2), .int .u64 (p2), .bool (found2), .int .i64 (tail2), .int .i64 (cyc2)] 86); (have kY := hY.cell); (have hR2 := hR.alloc (.cells #[.int .i64 (line2), .int .i64 (j2), .int .i64 (c2), .int .i64 (m2), .int .u64 (a2), .int .u64 (p2), .bool (found2), .int .i64 (tail2), .int .i64 (cyc2)] 86)); (have kR := hR2.cell); (have fR := hR2.free); (have kR0 := hR.cell); (have fR0 := hR.free)))
    have hZ := (hR.set9 (.int .i64 (line2)) (.int .i64 (j2)) (.int .i64 (c2)) (.int .i64 (m2)) (.int .u64 (a2)) (.int .u64 (p2)) (.bool (found2)) (.int .i64 (tail2)) (.int .i64 (cyc2))).alloc (.cells #[.int .i64 (line2), .int .i64 (j2), .int .i64 (c2), .int .i64 (m2), .int .u64 (a2), .int .u64 (p2), .bool (found2), .int .i64 (tail2), .int .i64 (cyc2)] 86)
    have kZ := hZ.cell
    refine bodyPost_ret (v := .tuple #[.agg #[.int .i64 (line2), .int .i64 (j2), .int .i64 (c2), .int .i64 (m2), .int .u64 (a2), .int .u64 (p2), .bool (found2), .int .i64 (tail2), .int .i64 (cyc2)], .int .i64 1, .bool is2]) (by simp [results, Try.results164, go_sem, kZ]) rfl ⟨rfl, ?_, ?_⟩
    · repeat (first | with_reducible exact HH | with_reducible refine HAt.alloc ?_ _ | with_reducible refine HAt.other ?_ b1 b3 b2 _)
    · repeat (first | with_reducible exact hFF | with_reducible refine Fr.alloc ?_ _ | with_reducible refine Fr.setNew ?_ (Nat.le_succ _) _)

theorem layers_any (W : World) : Calls Try.prog 147 #[] W fun e w' => e = .returned (.slice (some ⟨W.heap.size, 0, none⟩) 4 4) ∧ w' = W.alloc (.cells #[.func (.func 162) #[] #[], .func (.func 163) #[] #[], .func (.func 164) #[] #[], .func (.func 64) #[] #[]] 162) := by
  go_enter Try.func147, Try.ntmps147
  go_wp2
  go_ret
  exact ⟨rfl, rfl⟩
theorem hclear_any {w : World} {h ab db : Nat} {s : HS} (H : HAt w h ab db s) : Calls Try.prog 146 #[.pointer (some ⟨h, 0, none⟩)] w fun e w' => e = .returned (.tuple #[]) ∧ HAt w' h ab db s.clear ∧ Fr [h, db] w w' := by
  obtain ⟨B, A, n1, n2, R, L⟩ := H
  have kb := B.cell
  have fb := B.free
  go_enter Try.func146, Try.ntmps146
  go_wp2
  go_end0
  have zB := ((((B.set 5 (.int .i64 0)).set 6 (.int .i64 0)).set 7 (.int .u64 0)).set 8 (.int .u64 0)).set 9 (.int .u64 0)
  simp only [hcs, List.set_cons_zero, List.set_cons_succ] at zB
  exact ⟨rfl, ⟨zB, ((((A.other n1.symm n2.symm _).other n1.symm n2.symm _).other n1.symm n2.symm _).other n1.symm n2.symm _).other n1.symm n2.symm _, n1, n2, R, L⟩, (((((Fr.refl [h, db] w).setCell (by simp) _).setCell (by simp) _).setCell (by simp) _).setCell (by simp) _).setCell (by simp) _⟩

theorem rsM_no {s : HS} {x : ColV} (h : (rsM s x).is = false) : rsM s x = ⟨x, false, s⟩ := by
  unfold rsM at h ⊢
  repeat' split at h
  all_goals first | cases h | skip
  all_goals simp_all
theorem passM_no {s : HS} {x : ColV} (h : (passM s x).is = false) : passM s x = ⟨x, false, s⟩ := by
  unfold passM at h ⊢
  repeat' split at h
  all_goals first | cases h | skip
  all_goals simp_all
theorem barM_no {s : HS} {x : ColV} (h : (barM s x).is = false) : barM s x = ⟨x, false, false, s⟩ := by
  unfold barM at h ⊢
  repeat' split at h
  all_goals first | cases h | skip
  all_goals simp_all
theorem swM_no {s : HS} {x : ColV} (h : (swM s x).is = false) : swM s x = ⟨x, 0, false, s⟩ := by
  unfold swM swNext at h ⊢
  repeat' split at h
  all_goals first | cases h | skip
  all_goals simp_all

set_option maxRecDepth 100000 in
set_option maxHeartbeats 8000000 in
theorem col_on0 {w : World} {h ab db : Nat} {s : HS} (H : HAt w h ab db s) (x : ColV) (hx : x.Wf) (hn : x.Near)  (i0 : (rsM s.clear x).is = true) :
    Calls Try.prog 86 #[.pointer (some ⟨h, 0, none⟩), x.val] w fun e w' => e = .returned (.tuple #[(rsM s.clear x).x.val, .int .i64 0]) ∧ HAt w' h ab db (rsM s.clear x).s ∧ Fr [h, db] w w' := by
  have L0 := fun W (H : HAt W h ab db s.clear) => layer0_any H x hx hn
  rw [i0] at L0
  obtain ⟨y, hy⟩ : ∃ z, z = (rsM s.clear x).x := ⟨_, rfl⟩
  obtain ⟨s2, hs2⟩ : ∃ z, z = (rsM s.clear x).s := ⟨_, rfl⟩
  rw [← hy, ← hs2] at L0 ⊢
  clear hy hs2
  obtain ⟨line2, j2, c2, m2, a2, p2, found2, tail2, cyc2⟩ := y
  clear hx hn i0
  have HCl := hid (fun W (H : HAt W h ab db s) => hclear_any H)
  obtain ⟨sc, hsc⟩ : ∃ z, z = s.clear := ⟨_, rfl⟩
  rw [← hsc] at HCl L0
  clear hsc
  obtain ⟨line, j, c, m, a, p, found, tail, cyc⟩ := x
  simp only [ColV.val] at L0 ⊢
  replace L0 := hid L0
  have n0 := H.blk.lt
  have n1 := H.ar.dat.lt
  have n2 := H.ar.hdr.lt
  have hX := (Blk.new w [.int .i64 (line), .int .i64 (j), .int .i64 (c), .int .i64 (m), .int .u64 (a), .int .u64 (p), .bool (found), .int .i64 (tail), .int .i64 (cyc)] 86).alloc (.cells #[.int .i64 (0), .int .i64 (0), .int .i64 (0), .int .i64 (0), .int .u64 (0), .int .u64 (0), .bool (false), .int .i64 (0), .int .i64 (0)] 86)
  have hR := Blk.new (w.alloc (.cells #[.int .i64 (line), .int .i64 (j), .int .i64 (c), .int .i64 (m), .int .u64 (a), .int .u64 (p), .bool (found), .int .i64 (tail), .int .i64 (cyc)] 86)) zCol 86
  simp only [World.size_alloc] at hR
  have HH := (H.alloc (.cells #[.int .i64 (line), .int .i64 (j), .int .i64 (c), .int .i64 (m), .int .u64 (a), .int .u64 (p), .bool (found), .int .i64 (tail), .int .i64 (cyc)] 86)).alloc (.cells #[.int .i64 (0), .int .i64 (0), .int .i64 (0), .int .i64 (0), .int .u64 (0), .int .u64 (0), .bool (false), .int .i64 (0), .int .i64 (0)] 86)
  have hFF := ((Fr.refl [h, db] w).alloc (.cells #[.int .i64 (line), .int .i64 (j), .int .i64 (c), .int .i64 (m), .int .u64 (a), .int .u64 (p), .bool (found), .int .i64 (tail), .int .i64 (cyc)] 86)).alloc (.cells #[.int .i64 (0), .int .i64 (0), .int .i64 (0), .int .i64 (0), .int .u64 (0), .int .u64 (0), .bool (false), .int .i64 (0), .int .i64 (0)] 86)
  have nX : w.heap.size ∉ [h, db] := by simp; omega
  have nR : w.heap.size + 1 ∉ [h, db] := by simp; omega
  have b1 : h ≠ w.heap.size + 1 := by omega
  have b2 : db ≠ w.heap.size + 1 := by omega
  have b3 : ab ≠ w.heap.size + 1 := by omega
  clear H
  simp only [zCol] at hR
  go_enter Try.func86, Try.ntmps86
  go_wp2_with (first | (go_at_call 146; refine (HCl.out _ HH).mono ?_; rintro e w2 ⟨rfl, HH, hF2⟩; (replace hX := hX.kept hF2 nX); (replace hR := hR.kept hF2 nR); (replace hFF := hFF.trans hF2); (have lX := hX.lt); (have lR := hR.lt)) | (go_at_call 147; refine (layers_any _).mono ?_; rintro e w3 ⟨rfl, rfl⟩))
  have hL := Blk.new w2 [.func (.func 162) #[] #[], .func (.func 163) #[] #[], .func (.func 164) #[] #[], .func (.func 64) #[] #[]] 162
  have l1 := HH.blk.lt
  have l2 := HH.ar.dat.lt
  have nL : w2.heap.size ∉ [h, db] := by simp; omega
  have kL := hL.cell
  have lL := hL.lt
  have kX := ((hX.alloc (.cells #[.func (.func 162) #[] #[], .func (.func 163) #[] #[], .func (.func 164) #[] #[], .func (.func 64) #[] #[]] 162)).alloc (.cells #[.func (.func 162) #[] #[]] 162)).cell
  refine wp_loop_rounds 1 ?_
  rw [rounds_succ]
  go_wp2_with (first | (go_at_call 162; refine (L0.out _ ((HH.alloc _).alloc _)).mono ?_; rintro e w4 ⟨rfl, HH, hF2⟩; (replace hX := ((hX.alloc _).alloc _).kept hF2 nX); (replace hR := ((hR.alloc _).alloc _).kept hF2 nR); (replace hL := (hL.alloc _).kept hF2 nL); (replace hFF := ((hFF.alloc _).alloc _).trans hF2); (have lX := hX.lt); (have lR := hR.lt); (have lL := hL.lt); (have kL := (hL.alloc (.cells #[.int .i64 (line2), .int .i64 (j2), .int .i64 (c2), .int .i64 (m2), .int .u64 (a2), .int .u64 (p2), .bool (found2), .int .i64 (tail2), .int .i64 (cyc2)] 86)).cell); (have kR := (hR.alloc (.cells #[.int .i64 (line2), .int .i64 (j2), .int .i64 (c2), .int .i64 (m2), .int .u64 (a2), .int .u64 (p2), .bool (found2), .int .i64 (tail2), .int .i64 (cyc2)] 86)).cell); (have fR := (hR.alloc (.cells #[.int .i64 (line2), .int .i64 (j2), .int .i64 (c2), .int .i64 (m2), .int .u64 (a2), .int .u64 (p2), .bool (found2), .int .i64 (tail2), .int .i64 (cyc2)] 86)).free); (have kX1 := (hX.alloc (.cells #[.int .i64 (line2), .int .i64 (j2), .int .i64 (c2), .int .i64 (m2), .int .u64 (a2), .int .u64 (p2), .bool (found2), .int .i64 (tail2), .int .i64 (cyc2)] 86)).cell); (have kL0 := hL.cell); (have kR0 := hR.cell); (have fR0 := hR.free); (have kX0 := hX.cell); (have kX := ((hX.alloc (.cells #[.int .i64 (line2), .int .i64 (j2), .int .i64 (c2), .int .i64 (m2), .int .u64 (a2), .int .u64 (p2), .bool (found2), .int .i64 (tail2), .int .i64 (cyc2)] 86)).alloc (.cells #[.func (.func 163) #[] #[]] 162)).cell)))
  have hZ := (hR.set9 (.int .i64 (line2)) (.int .i64 (j2)) (.int .i64 (c2)) (.int .i64 (m2)) (.int .u64 (a2)) (.int .u64 (p2)) (.bool (found2)) (.int .i64 (tail2)) (.int .i64 (cyc2))).alloc (.cells #[.int .i64 (line2), .int .i64 (j2), .int .i64 (c2), .int .i64 (m2), .int .u64 (a2), .int .u64 (p2), .bool (found2), .int .i64 (tail2), .int .i64 (cyc2)] 86)
  have kZ := hZ.cell
  refine bodyPost_ret (v := .tuple #[.agg #[.int .i64 (line2), .int .i64 (j2), .int .i64 (c2), .int .i64 (m2), .int .u64 (a2), .int .u64 (p2), .bool (found2), .int .i64 (tail2), .int .i64 (cyc2)], .int .i64 0]) (by simp [results, Try.results86, go_sem, kZ]) rfl ⟨rfl, ?_, ?_⟩
  · repeat (first | with_reducible exact HH | with_reducible refine HAt.alloc ?_ _ | with_reducible refine HAt.other ?_ b1 b3 b2 _)
  · repeat (first | with_reducible exact hFF | with_reducible refine Fr.alloc ?_ _ | with_reducible refine Fr.setNew ?_ (Nat.le_succ _) _)

set_option maxRecDepth 100000 in
set_option maxHeartbeats 8000000 in
theorem col_on1 {w : World} {h ab db : Nat} {s : HS} (H : HAt w h ab db s) (x : ColV) (hx : x.Wf) (hn : x.Near) (i0 : (rsM s.clear x).is = false) (i1 : (passM s.clear x).is = true) :
    Calls Try.prog 86 #[.pointer (some ⟨h, 0, none⟩), x.val] w fun e w' => e = .returned (.tuple #[(passM s.clear x).x.val, .int .i64 0]) ∧ HAt w' h ab db (passM s.clear x).s ∧ Fr [h, db] w w' := by
  have L0 := fun W (H : HAt W h ab db s.clear) => layer0_any H x hx hn
  rw [rsM_no i0] at L0
  have L1 := fun W (H : HAt W h ab db s.clear) => layer1_any H x hx hn
  rw [i1] at L1
  obtain ⟨y, hy⟩ : ∃ z, z = (passM s.clear x).x := ⟨_, rfl⟩
  obtain ⟨s2, hs2⟩ : ∃ z, z = (passM s.clear x).s := ⟨_, rfl⟩
  rw [← hy, ← hs2] at L1 ⊢
  clear hy hs2
  obtain ⟨line2, j2, c2, m2, a2, p2, found2, tail2, cyc2⟩ := y
  clear hx hn i0 i1
  have HCl := hid (fun W (H : HAt W h ab db s) => hclear_any H)
  obtain ⟨sc, hsc⟩ : ∃ z, z = s.clear := ⟨_, rfl⟩
  rw [← hsc] at HCl L0 L1
  clear hsc
  obtain ⟨line, j, c, m, a, p, found, tail, cyc⟩ := x
  simp only [ColV.val] at L0 L1 ⊢
  replace L0 := hid L0
  replace L1 := hid L1
  have n0 := H.blk.lt
  have n1 := H.ar.dat.lt
  have n2 := H.ar.hdr.lt
  have hX := (Blk.new w [.int .i64 (line), .int .i64 (j), .int .i64 (c), .int .i64 (m), .int .u64 (a), .int .u64 (p), .bool (found), .int .i64 (tail), .int .i64 (cyc)] 86).alloc (.cells #[.int .i64 (0), .int .i64 (0), .int .i64 (0), .int .i64 (0), .int .u64 (0), .int .u64 (0), .bool (false), .int .i64 (0), .int .i64 (0)] 86)
  have hR := Blk.new (w.alloc (.cells #[.int .i64 (line), .int .i64 (j), .int .i64 (c), .int .i64 (m), .int .u64 (a), .int .u64 (p), .bool (found), .int .i64 (tail), .int .i64 (cyc)] 86)) zCol 86
  simp only [World.size_alloc] at hR
  have HH := (H.alloc (.cells #[.int .i64 (line), .int .i64 (j), .int .i64 (c), .int .i64 (m), .int .u64 (a), .int .u64 (p), .bool (found), .int .i64 (tail), .int .i64 (cyc)] 86)).alloc (.cells #[.int .i64 (0), .int .i64 (0), .int .i64 (0), .int .i64 (0), .int .u64 (0), .int .u64 (0), .bool (false), .int .i64 (0), .int .i64 (0)] 86)
  have hFF := ((Fr.refl [h, db] w).alloc (.cells #[.int .i64 (line), .int .i64 (j), .int .i64 (c), .int .i64 (m), .int .u64 (a), .int .u64 (p), .bool (found), .int .i64 (tail), .int .i64 (cyc)] 86)).alloc (.cells #[.int .i64 (0), .int .i64 (0), .int .i64 (0), .int .i64 (0), .int .u64 (0), .int .u64 (0), .bool (false), .int .i64 (0), .int .i64 (0)] 86)
  have nX : w.heap.size ∉ [h, db] := by simp; omega
  have nR : w.heap.size + 1 ∉ [h, db] := by simp; omega
  have b1 : h ≠ w.heap.size + 1 := by omega
  have b2 : db ≠ w.heap.size + 1 := by omega
  have b3 : ab ≠ w.heap.size + 1 := by omega
  clear H
  simp only [zCol] at hR
  go_enter Try.func86, Try.ntmps86
  go_wp2_with (first | (go_at_call 146; refine (HCl.out _ HH).mono ?_; rintro e w2 ⟨rfl, HH, hF2⟩; (replace hX := hX.kept hF2 nX); (replace hR := hR.kept hF2 nR); (replace hFF := hFF.trans hF2); (have lX := hX.lt); (have lR := hR.lt)) | (go_at_call 147; refine (layers_any _).mono ?_; rintro e w3 ⟨rfl, rfl⟩))
  have hL := Blk.new w2 [.func (.func 162) #[] #[], .func (.func 163) #[] #[], .func (.func 164) #[] #[], .func (.func 64) #[] #[]] 162
  have l1 := HH.blk.lt
  have l2 := HH.ar.dat.lt
  have nL : w2.heap.size ∉ [h, db] := by simp; omega
  have kL := hL.cell
  have lL := hL.lt
  have kX := ((hX.alloc (.cells #[.func (.func 162) #[] #[], .func (.func 163) #[] #[], .func (.func 164) #[] #[], .func (.func 64) #[] #[]] 162)).alloc (.cells #[.func (.func 162) #[] #[]] 162)).cell
  refine wp_loop_rounds 2 ?_
  rw [rounds_succ]
  go_wp2_with (first | (go_at_call 162; refine (L0.out _ ((HH.alloc _).alloc _)).mono ?_; rintro e w4 ⟨rfl, HH, hF2⟩; (replace hX := ((hX.alloc _).alloc _).kept hF2 nX); (replace hR := ((hR.alloc _).alloc _).kept hF2 nR); (replace hL := (hL.alloc _).kept hF2 nL); (replace hFF := ((hFF.alloc _).alloc _).trans hF2); (have lX := hX.lt); (have lR := hR.lt); (have lL := hL.lt); (have kL := (hL.alloc (.cells #[.int .i64 (line), .int .i64 (j), .int .i64 (c), .int .i64 (m), .int .u64 (a), .int .u64 (p), .bool (found), .int .i64 (tail), .int .i64 (cyc)] 86)).cell); (have kR := (hR.alloc (.cells #[.int .i64 (line), .int .i64 (j), .int .i64 (c), .int .i64 (m), .int .u64 (a), .int .u64 (p), .bool (found), .int .i64 (tail), .int .i64 (cyc)] 86)).cell); (have fR := (hR.alloc (.cells #[.int .i64 (line), .int .i64 (j), .int .i64 (c), .int .i64 (m), .int .u64 (a), .int .u64 (p), .bool (found), .int .i64 (tail), .int .i64 (cyc)] 86)).free); (have kX1 := (hX.alloc (.cells #[.int .i64 (line), .int .i64 (j), .int .i64 (c), .int .i64 (m), .int .u64 (a), .int .u64 (p), .bool (found), .int .i64 (tail), .int .i64 (cyc)] 86)).cell); (have kL0 := hL.cell); (have kR0 := hR.cell); (have fR0 := hR.free); (have kX0 := hX.cell); (have kX := ((hX.alloc (.cells #[.int .i64 (line), .int .i64 (j), .int .i64 (c), .int .i64 (m), .int .u64 (a), .int .u64 (p), .bool (found), .int .i64 (tail), .int .i64 (cyc)] 86)).alloc (.cells #[.func (.func 163) #[] #[]] 162)).cell)))
  rw [rounds_succ]
  go_wp2_with (first | (go_at_call 163; refine (L1.out _ ((HH.alloc _).alloc _)).mono ?_; rintro e w5 ⟨rfl, HH, hF2⟩; (replace hX := ((hX.alloc _).alloc _).kept hF2 nX); (replace hR := ((hR.alloc _).alloc _).kept hF2 nR); (replace hL := ((hL.alloc _).alloc _).kept hF2 nL); (replace hFF := ((hFF.alloc _).alloc _).trans hF2); (have lX := hX.lt); (have lR := hR.lt); (have lL := hL.lt); (have kL := (hL.alloc (.cells #[.int .i64 (line2), .int .i64 (j2), .int .i64 (c2), .int .i64 (m2), .int .u64 (a2), .int .u64 (p2), .bool (found2), .int .i64 (tail2), .int .i64 (cyc2)] 86)).cell); (have kR := (hR.alloc (.cells #[.int .i64 (line2), .int .i64 (j2), .int .i64 (c2), .int .i64 (m2), .int .u64 (a2), .int .u64 (p2), .bool (found2), .int .i64 (tail2), .int .i64 (cyc2)] 86)).cell); (have fR := (hR.alloc (.cells #[.int .i64 (line2), .int .i64 (j2), .int .i64 (c2), .int .i64 (m2), .int .u64 (a2), .int .u64 (p2), .bool (found2), .int .i64 (tail2), .int .i64 (cyc2)] 86)).free); (have kX1 := (hX.alloc (.cells #[.int .i64 (line2), .int .i64 (j2), .int .i64 (c2), .int .i64 (m2), .int .u64 (a2), .int .u64 (p2), .bool (found2), .int .i64 (tail2), .int .i64 (cyc2)] 86)).cell); (have kL0 := hL.cell); (have kR0 := hR.cell); (have fR0 := hR.free); (have kX0 := hX.cell); (have kX := ((hX.alloc (.cells #[.int .i64 (line2), .int .i64 (j2), .int .i64 (c2), .int .i64 (m2), .int .u64 (a2), .int .u64 (p2), .bool (found2), .int .i64 (tail2), .int .i64 (cyc2)] 86)).alloc (.cells #[.func (.func 164) #[] #[]] 162)).cell)))
  have hZ := (hR.set9 (.int .i64 (line2)) (.int .i64 (j2)) (.int .i64 (c2)) (.int .i64 (m2)) (.int .u64 (a2)) (.int .u64 (p2)) (.bool (found2)) (.int .i64 (tail2)) (.int .i64 (cyc2))).alloc (.cells #[.int .i64 (line2), .int .i64 (j2), .int .i64 (c2), .int .i64 (m2), .int .u64 (a2), .int .u64 (p2), .bool (found2), .int .i64 (tail2), .int .i64 (cyc2)] 86)
  have kZ := hZ.cell
  refine bodyPost_ret (v := .tuple #[.agg #[.int .i64 (line2), .int .i64 (j2), .int .i64 (c2), .int .i64 (m2), .int .u64 (a2), .int .u64 (p2), .bool (found2), .int .i64 (tail2), .int .i64 (cyc2)], .int .i64 0]) (by simp [results, Try.results86, go_sem, kZ]) rfl ⟨rfl, ?_, ?_⟩
  · repeat (first | with_reducible exact HH | with_reducible refine HAt.alloc ?_ _ | with_reducible refine HAt.other ?_ b1 b3 b2 _)
  · repeat (first | with_reducible exact hFF | with_reducible refine Fr.alloc ?_ _ | with_reducible refine Fr.setNew ?_ (Nat.le_succ _) _)

set_option maxRecDepth 100000 in
set_option maxHeartbeats 8000000 in
theorem col_on2 {w : World} {h ab db : Nat} {s : HS} (H : HAt w h ab db s) (x : ColV) (hx : x.Wf) (hn : x.Near) (i0 : (rsM s.clear x).is = false) (i1 : (passM s.clear x).is = false) (i2 : (barM s.clear x).is = true) :
    Calls Try.prog 86 #[.pointer (some ⟨h, 0, none⟩), x.val] w fun e w' => e = .returned (.tuple #[(barM s.clear x).x.val, .int .i64 (if (barM s.clear x).flip = true then 1 else 0)]) ∧ HAt w' h ab db (barM s.clear x).s ∧ Fr [h, db] w w' := by
  have L0 := fun W (H : HAt W h ab db s.clear) => layer0_any H x hx hn
  rw [rsM_no i0] at L0
  have L1 := fun W (H : HAt W h ab db s.clear) => layer1_any H x hx hn
  rw [passM_no i1] at L1
  have L2 := fun W (H : HAt W h ab db s.clear) => layer2_any H x hx hn
  obtain ⟨wh, hwh⟩ : ∃ z, z = ((if (barM s.clear x).flip = true then 1 else 0) : Int) := ⟨_, rfl⟩
  rw [i2] at L2
  rw [← hwh] at L2 ⊢
  obtain ⟨y, hy⟩ : ∃ z, z = (barM s.clear x).x := ⟨_, rfl⟩
  obtain ⟨s2, hs2⟩ : ∃ z, z = (barM s.clear x).s := ⟨_, rfl⟩
  rw [← hy, ← hs2] at L2 ⊢
  clear hy hs2 hwh
  obtain ⟨line2, j2, c2, m2, a2, p2, found2, tail2, cyc2⟩ := y
  clear hx hn i0 i1 i2
  have HCl := hid (fun W (H : HAt W h ab db s) => hclear_any H)
  obtain ⟨sc, hsc⟩ : ∃ z, z = s.clear := ⟨_, rfl⟩
  rw [← hsc] at HCl L0 L1 L2
  clear hsc
  obtain ⟨line, j, c, m, a, p, found, tail, cyc⟩ := x
  simp only [ColV.val] at L0 L1 L2 ⊢
  replace L0 := hid L0
  replace L1 := hid L1
  replace L2 := hid L2
  have n0 := H.blk.lt
  have n1 := H.ar.dat.lt
  have n2 := H.ar.hdr.lt
  have hX := (Blk.new w [.int .i64 (line), .int .i64 (j), .int .i64 (c), .int .i64 (m), .int .u64 (a), .int .u64 (p), .bool (found), .int .i64 (tail), .int .i64 (cyc)] 86).alloc (.cells #[.int .i64 (0), .int .i64 (0), .int .i64 (0), .int .i64 (0), .int .u64 (0), .int .u64 (0), .bool (false), .int .i64 (0), .int .i64 (0)] 86)
  have hR := Blk.new (w.alloc (.cells #[.int .i64 (line), .int .i64 (j), .int .i64 (c), .int .i64 (m), .int .u64 (a), .int .u64 (p), .bool (found), .int .i64 (tail), .int .i64 (cyc)] 86)) zCol 86
  simp only [World.size_alloc] at hR
  have HH := (H.alloc (.cells #[.int .i64 (line), .int .i64 (j), .int .i64 (c), .int .i64 (m), .int .u64 (a), .int .u64 (p), .bool (found), .int .i64 (tail), .int .i64 (cyc)] 86)).alloc (.cells #[.int .i64 (0), .int .i64 (0), .int .i64 (0), .int .i64 (0), .int .u64 (0), .int .u64 (0), .bool (false), .int .i64 (0), .int .i64 (0)] 86)
  have hFF := ((Fr.refl [h, db] w).alloc (.cells #[.int .i64 (line), .int .i64 (j), .int .i64 (c), .int .i64 (m), .int .u64 (a), .int .u64 (p), .bool (found), .int .i64 (tail), .int .i64 (cyc)] 86)).alloc (.cells #[.int .i64 (0), .int .i64 (0), .int .i64 (0), .int .i64 (0), .int .u64 (0), .int .u64 (0), .bool (false), .int .i64 (0), .int .i64 (0)] 86)
  have nX : w.heap.size ∉ [h, db] := by simp; omega
  have nR : w.heap.size + 1 ∉ [h, db] := by simp; omega
  have b1 : h ≠ w.heap.size + 1 := by omega
  have b2 : db ≠ w.heap.size + 1 := by omega
  have b3 : ab ≠ w.heap.size + 1 := by omega
  clear H
  simp only [zCol] at hR
  go_enter Try.func86, Try.ntmps86
  go_wp2_with (first | (go_at_call 146; refine (HCl.out _ HH).mono ?_; rintro e w2 ⟨rfl, HH, hF2⟩; (replace hX := hX.kept hF2 nX); (replace hR := hR.kept hF2 nR); (replace hFF := hFF.trans hF2); (have lX := hX.lt); (have lR := hR.lt)) | (go_at_call 147; refine (layers_any _).mono ?_; rintro e w3 ⟨rfl, rfl⟩))
  have hL := Blk.new w2 [.func (.func 162) #[] #[], .func (.func 163) #[] #[], .func (.func 164) #[] #[], .func (.func 64) #[] #[]] 162
  have l1 := HH.blk.lt
  have l2 := HH.ar.dat.lt
  have nL : w2.heap.size ∉ [h, db] := by simp; omega
  have kL := hL.cell
  have lL := hL.lt
  have kX := ((hX.alloc (.cells #[.func (.func 162) #[] #[], .func (.func 163) #[] #[], .func (.func 164) #[] #[], .func (.func 64) #[] #[]] 162)).alloc (.cells #[.func (.func 162) #[] #[]] 162)).cell
  refine wp_loop_rounds 3 ?_
  rw [rounds_succ]
  go_wp2_with (first | (go_at_call 162; refine (L0.out _ ((HH.alloc _).alloc _)).mono ?_; rintro e w4 ⟨rfl, HH, hF2⟩; (replace hX := ((hX.alloc _).alloc _).kept hF2 nX); (replace hR := ((hR.alloc _).alloc _).kept hF2 nR); (replace hL := (hL.alloc _).kept hF2 nL); (replace hFF := ((hFF.alloc _).alloc _).trans hF2); (have lX := hX.lt); (have lR := hR.lt); (have lL := hL.lt); (have kL := (hL.alloc (.cells #[.int .i64 (line), .int .i64 (j), .int .i64 (c), .int .i64 (m), .int .u64 (a), .int .u64 (p), .bool (found), .int .i64 (tail), .int .i64 (cyc)] 86)).cell); (have kR := (hR.alloc (.cells #[.int .i64 (line), .int .i64 (j), .int .i64 (c), .int .i64 (m), .int .u64 (a), .int .u64 (p), .bool (found), .int .i64 (tail), .int .i64 (cyc)] 86)).cell); (have fR := (hR.alloc (.cells #[.int .i64 (line), .int .i64 (j), .int .i64 (c), .int .i64 (m), .int .u64 (a), .int .u64 (p), .bool (found), .int .i64 (tail), .int .i64 (cyc)] 86)).free); (have kX1 := (hX.alloc (.cells #[.int .i64 (line), .int .i64 (j), .int .i64 (c), .int .i64 (m), .int .u64 (a), .int .u64 (p), .bool (found), .int .i64 (tail), .int .i64 (cyc)] 86)).cell); (have kL0 := hL.cell); (have kR0 := hR.cell); (have fR0 := hR.free); (have kX0 := hX.cell); (have kX := ((hX.alloc (.cells #[.int .i64 (line), .int .i64 (j), .int .i64 (c), .int .i64 (m), .int .u64 (a), .int .u64 (p), .bool (found), .int .i64 (tail), .int .i64 (cyc)] 86)).alloc (.cells #[.func (.func 163) #[] #[]] 162)).cell)))
  rw [rounds_succ]
  go_wp2_with (first | (go_at_call 163; refine (L1.out _ ((HH.alloc _).alloc _)).mono ?_; rintro e w5 ⟨rfl, HH, hF2⟩; (replace hX := ((hX.alloc _).alloc _).kept hF2 nX); (replace hR := ((hR.alloc _).alloc _).kept hF2 nR); (replace hL := ((hL.alloc _).alloc _).kept hF2 nL); (replace hFF := ((hFF.alloc _).alloc _).trans hF2); (have lX := hX.lt); (have lR := hR.lt); (have lL := hL.lt); (have kL := (hL.alloc (.cells #[.int .i64 (line), .int .i64 (j), .int .i64 (c), .int .i64 (m), .int .u64 (a), .int .u64 (p), .bool (found), .int .i64 (tail), .int .i64 (cyc)] 86)).cell); (have kR := (hR.alloc (.cells #[.int .i64 (line), .int .i64 (j), .int .i64 (c), .int .i64 (m), .int .u64 (a), .int .u64 (p), .bool (found), .int .i64 (tail), .int .i64 (cyc)] 86)).cell); (have fR := (hR.alloc (.cells #[.int .i64 (line), .int .i64 (j), .int .i64 (c), .int .i64 (m), .int .u64 (a), .int .u64 (p), .bool (found), .int .i64 (tail), .int .i64 (cyc)] 86)).free); (have kX1 := (hX.alloc (.cells #[.int .i64 (line), .int .i64 (j), .int .i64 (c), .int .i64 (m), .int .u64 (a), .int .u64 (p), .bool (found), .int .i64 (tail), .int .i64 (cyc)] 86)).cell); (have kL0 := hL.cell); (have kR0 := hR.cell); (have fR0 := hR.free); (have kX0 := hX.cell); (have kX := ((hX.alloc (.cells #[.int .i64 (line), .int .i64 (j), .int .i64 (c), .int .i64 (m), .int .u64 (a), .int .u64 (p), .bool (found), .int .i64 (tail), .int .i64 (cyc)] 86)).alloc (.cells #[.func (.func 164) #[] #[]] 162)).cell)))
  rw [rounds_succ]
  go_wp2_with (first | (go_at_call 164; refine (L2.out _ ((HH.alloc _).alloc _)).mono ?_; rintro e w6 ⟨rfl, HH, hF2⟩; (replace hX := ((hX.alloc _).alloc _).kept hF2 nX); (replace hR := ((hR.alloc _).alloc _).kept hF2 nR); (replace hL := ((hL.alloc _).alloc _).kept hF2 nL); (replace hFF := ((hFF.alloc _).alloc _).trans hF2); (have lX := hX.lt); (have lR := hR.lt); (have lL := hL.lt); (have kL := (hL.alloc (.cells #[.int .i64 (line2), .int .i64 (j2), .int .i64 (c2), .int .i64 (m2), .int .u64 (a2), .int .u64 (p2), .bool (found2), .int .i64 (tail2), .int .i64 (cyc2)] 86)).cell); (have kR := (hR.alloc (.cells #[.int .i64 (line2), .int .i64 (j2), .int .i64 (c2), .int .i64 (m2), .int .u64 (a2), .int .u64 (p2), .bool (found2), .int .i64 (tail2), .int .i64 (cyc2)] 86)).cell); (have fR := (hR.alloc (.cells #[.int .i64 (line2), .int .i64 (j2), .int .i64 (c2), .int .i64 (m2), .int .u64 (a2), .int .u64 (p2), .bool (found2), .int .i64 (tail2), .int .i64 (cyc2)] 86)).free); (have kX1 := (hX.alloc (.cells #[.int .i64 (line2), .int .i64 (j2), .int .i64 (c2), .int .i64 (m2), .int .u64 (a2), .int .u64 (p2), .bool (found2), .int .i64 (tail2), .int .i64 (cyc2)] 86)).cell); (have kL0 := hL.cell); (have kR0 := hR.cell); (have fR0 := hR.free); (have kX0 := hX.cell); (have kX := ((hX.alloc (.cells #[.int .i64 (line2), .int .i64 (j2), .int .i64 (c2), .int .i64 (m2), .int .u64 (a2), .int .u64 (p2), .bool (found2), .int .i64 (tail2), .int .i64 (cyc2)] 86)).alloc (.cells #[.func (.func 64) #[] #[]] 162)).cell)))
  have hZ := (hR.set9 (.int .i64 (line2)) (.int .i64 (j2)) (.int .i64 (c2)) (.int .i64 (m2)) (.int .u64 (a2)) (.int .u64 (p2)) (.bool (found2)) (.int .i64 (tail2)) (.int .i64 (cyc2))).alloc (.cells #[.int .i64 (line2), .int .i64 (j2), .int .i64 (c2), .int .i64 (m2), .int .u64 (a2), .int .u64 (p2), .bool (found2), .int .i64 (tail2), .int .i64 (cyc2)] 86)
  have kZ := hZ.cell
  refine bodyPost_ret (v := .tuple #[.agg #[.int .i64 (line2), .int .i64 (j2), .int .i64 (c2), .int .i64 (m2), .int .u64 (a2), .int .u64 (p2), .bool (found2), .int .i64 (tail2), .int .i64 (cyc2)], .int .i64 wh]) (by simp [results, Try.results86, go_sem, kZ]) rfl ⟨rfl, ?_, ?_⟩
  · repeat (first | with_reducible exact HH | with_reducible refine HAt.alloc ?_ _ | with_reducible refine HAt.other ?_ b1 b3 b2 _)
  · repeat (first | with_reducible exact hFF | with_reducible refine Fr.alloc ?_ _ | with_reducible refine Fr.setNew ?_ (Nat.le_succ _) _)

set_option maxRecDepth 100000 in
set_option maxHeartbeats 8000000 in
theorem col_on3 {w : World} {h ab db : Nat} {s : HS} (H : HAt w h ab db s) (x : ColV) (hx : x.Wf) (hn : x.Near) (i0 : (rsM s.clear x).is = false) (i1 : (passM s.clear x).is = false) (i2 : (barM s.clear x).is = false) (i3 : (swM s.clear x).is = true) :
    Calls Try.prog 86 #[.pointer (some ⟨h, 0, none⟩), x.val] w fun e w' => e = .returned (.tuple #[(swM s.clear x).x.val, .int .i64 (swM s.clear x).what]) ∧ HAt w' h ab db (swM s.clear x).s ∧ Fr [h, db] w w' := by
  have L0 := fun W (H : HAt W h ab db s.clear) => layer0_any H x hx hn
  rw [rsM_no i0] at L0
  have L1 := fun W (H : HAt W h ab db s.clear) => layer1_any H x hx hn
  rw [passM_no i1] at L1
  have L2 := fun W (H : HAt W h ab db s.clear) => layer2_any H x hx hn
  rw [barM_no i2] at L2
  simp only [Bool.false_eq_true, if_false] at L2
  have L3 := fun W (H : HAt W h ab db s.clear) => sw_any H x hx hn
  obtain ⟨wh, hwh⟩ : ∃ z, z = ((swM s.clear x).what : Int) := ⟨_, rfl⟩
  rw [i3] at L3
  rw [← hwh] at L3 ⊢
  obtain ⟨y, hy⟩ : ∃ z, z = (swM s.clear x).x := ⟨_, rfl⟩
  obtain ⟨s2, hs2⟩ : ∃ z, z = (swM s.clear x).s := ⟨_, rfl⟩
  rw [← hy, ← hs2] at L3 ⊢
  clear hy hs2 hwh
  obtain ⟨line2, j2, c2, m2, a2, p2, found2, tail2, cyc2⟩ := y
  clear hx hn i0 i1 i2 i3
  have HCl := hid (fun W (H : HAt W h ab db s) => hclear_any H)
  obtain ⟨sc, hsc⟩ : ∃ z, z = s.clear := ⟨_, rfl⟩
  rw [← hsc] at HCl L0 L1 L2 L3
  clear hsc
  obtain ⟨line, j, c, m, a, p, found, tail, cyc⟩ := x
  simp only [ColV.val] at L0 L1 L2 L3 ⊢
  replace L0 := hid L0
  replace L1 := hid L1
  replace L2 := hid L2
  replace L3 := hid L3
  have n0 := H.blk.lt
  have n1 := H.ar.dat.lt
  have n2 := H.ar.hdr.lt
  have hX := (Blk.new w [.int .i64 (line), .int .i64 (j), .int .i64 (c), .int .i64 (m), .int .u64 (a), .int .u64 (p), .bool (found), .int .i64 (tail), .int .i64 (cyc)] 86).alloc (.cells #[.int .i64 (0), .int .i64 (0), .int .i64 (0), .int .i64 (0), .int .u64 (0), .int .u64 (0), .bool (false), .int .i64 (0), .int .i64 (0)] 86)
  have hR := Blk.new (w.alloc (.cells #[.int .i64 (line), .int .i64 (j), .int .i64 (c), .int .i64 (m), .int .u64 (a), .int .u64 (p), .bool (found), .int .i64 (tail), .int .i64 (cyc)] 86)) zCol 86
  simp only [World.size_alloc] at hR
  have HH := (H.alloc (.cells #[.int .i64 (line), .int .i64 (j), .int .i64 (c), .int .i64 (m), .int .u64 (a), .int .u64 (p), .bool (found), .int .i64 (tail), .int .i64 (cyc)] 86)).alloc (.cells #[.int .i64 (0), .int .i64 (0), .int .i64 (0), .int .i64 (0), .int .u64 (0), .int .u64 (0), .bool (false), .int .i64 (0), .int .i64 (0)] 86)
  have hFF := ((Fr.refl [h, db] w).alloc (.cells #[.int .i64 (line), .int .i64 (j), .int .i64 (c), .int .i64 (m), .int .u64 (a), .int .u64 (p), .bool (found), .int .i64 (tail), .int .i64 (cyc)] 86)).alloc (.cells #[.int .i64 (0), .int .i64 (0), .int .i64 (0), .int .i64 (0), .int .u64 (0), .int .u64 (0), .bool (false), .int .i64 (0), .int .i64 (0)] 86)
  have nX : w.heap.size ∉ [h, db] := by simp; omega
  have nR : w.heap.size + 1 ∉ [h, db] := by simp; omega
  have b1 : h ≠ w.heap.size + 1 := by omega
  have b2 : db ≠ w.heap.size + 1 := by omega
  have b3 : ab ≠ w.heap.size + 1 := by omega
  clear H
  simp only [zCol] at hR
  go_enter Try.func86, Try.ntmps86
  go_wp2_with (first | (go_at_call 146; refine (HCl.out _ HH).mono ?_; rintro e w2 ⟨rfl, HH, hF2⟩; (replace hX := hX.kept hF2 nX); (replace hR := hR.kept hF2 nR); (replace hFF := hFF.trans hF2); (have lX := hX.lt); (have lR := hR.lt)) | (go_at_call 147; refine (layers_any _).mono ?_; rintro e w3 ⟨rfl, rfl⟩))
  have hL := Blk.new w2 [.func (.func 162) #[] #[], .func (.func 163) #[] #[], .func (.func 164) #[] #[], .func (.func 64) #[] #[]] 162
  have l1 := HH.blk.lt
  have l2 := HH.ar.dat.lt
  have nL : w2.heap.size ∉ [h, db] := by simp; omega
  have kL := hL.cell
  have lL := hL.lt
  have kX := ((hX.alloc (.cells #[.func (.func 162) #[] #[], .func (.func 163) #[] #[], .func (.func 164) #[] #[], .func (.func 64) #[] #[]] 162)).alloc (.cells #[.func (.func 162) #[] #[]] 162)).cell
  refine wp_loop_rounds 4 ?_
  rw [rounds_succ]
  go_wp2_with (first | (go_at_call 162; refine (L0.out _ ((HH.alloc _).alloc _)).mono ?_; rintro e w4 ⟨rfl, HH, hF2⟩; (replace hX := ((hX.alloc _).alloc _).kept hF2 nX); (replace hR := ((hR.alloc _).alloc _).kept hF2 nR); (replace hL := (hL.alloc _).kept hF2 nL); (replace hFF := ((hFF.alloc _).alloc _).trans hF2); (have lX := hX.lt); (have lR := hR.lt); (have lL := hL.lt); (have kL := (hL.alloc (.cells #[.int .i64 (line), .int .i64 (j), .int .i64 (c), .int .i64 (m), .int .u64 (a), .int .u64 (p), .bool (found), .int .i64 (tail), .int .i64 (cyc)] 86)).cell); (have kR := (hR.alloc (.cells #[.int .i64 (line), .int .i64 (j), .int .i64 (c), .int .i64 (m), .int .u64 (a), .int .u64 (p), .bool (found), .int .i64 (tail), .int .i64 (cyc)] 86)).cell); (have fR := (hR.alloc (.cells #[.int .i64 (line), .int .i64 (j), .int .i64 (c), .int .i64 (m), .int .u64 (a), .int .u64 (p), .bool (found), .int .i64 (tail), .int .i64 (cyc)] 86)).free); (have kX1 := (hX.alloc (.cells #[.int .i64 (line), .int .i64 (j), .int .i64 (c), .int .i64 (m), .int .u64 (a), .int .u64 (p), .bool (found), .int .i64 (tail), .int .i64 (cyc)] 86)).cell); (have kL0 := hL.cell); (have kR0 := hR.cell); (have fR0 := hR.free); (have kX0 := hX.cell); (have kX := ((hX.alloc (.cells #[.int .i64 (line), .int .i64 (j), .int .i64 (c), .int .i64 (m), .int .u64 (a), .int .u64 (p), .bool (found), .int .i64 (tail), .int .i64 (cyc)] 86)).alloc (.cells #[.func (.func 163) #[] #[]] 162)).cell)))
  rw [rounds_succ]
  go_wp2_with (first | (go_at_call 163; refine (L1.out _ ((HH.alloc _).alloc _)).mono ?_; rintro e w5 ⟨rfl, HH, hF2⟩; (replace hX := ((hX.alloc _).alloc _).kept hF2 nX); (replace hR := ((hR.alloc _).alloc _).kept hF2 nR); (replace hL := ((hL.alloc _).alloc _).kept hF2 nL); (replace hFF := ((hFF.alloc _).alloc _).trans hF2); (have lX := hX.lt); (have lR := hR.lt); (have lL := hL.lt); (have kL := (hL.alloc (.cells #[.int .i64 (line), .int .i64 (j), .int .i64 (c), .int .i64 (m), .int .u64 (a), .int .u64 (p), .bool (found), .int .i64 (tail), .int .i64 (cyc)] 86)).cell); (have kR := (hR.alloc (.cells #[.int .i64 (line), .int .i64 (j), .int .i64 (c), .int .i64 (m), .int .u64 (a), .int .u64 (p), .bool (found), .int .i64 (tail), .int .i64 (cyc)] 86)).cell); (have fR := (hR.alloc (.cells #[.int .i64 (line), .int .i64 (j), .int .i64 (c), .int .i64 (m), .int .u64 (a), .int .u64 (p), .bool (found), .int .i64 (tail), .int .i64 (cyc)] 86)).free); (have kX1 := (hX.alloc (.cells #[.int .i64 (line), .int .i64 (j), .int .i64 (c), .int .i64 (m), .int .u64 (a), .int .u64 (p), .bool (found), .int .i64 (tail), .int .i64 (cyc)] 86)).cell); (have kL0 := hL.cell); (have kR0 := hR.cell); (have fR0 := hR.free); (have kX0 := hX.cell); (have kX := ((hX.alloc (.cells #[.int .i64 (line), .int .i64 (j), .int .i64 (c), .int .i64 (m), .int .u64 (a), .int .u64 (p), .bool (found), .int .i64 (tail), .int .i64 (cyc)] 86)).alloc (.cells #[.func (.func 164) #[] #[]] 162)).cell)))
  rw [rounds_succ]
  go_wp2_with (first | (go_at_call 164; refine (L2.out _ ((HH.alloc _).alloc _)).mono ?_; rintro e w6 ⟨rfl, HH, hF2⟩; (replace hX := ((hX.alloc _).alloc _).kept hF2 nX); (replace hR := ((hR.alloc _).alloc _).kept hF2 nR); (replace hL := ((hL.alloc _).alloc _).kept hF2 nL); (replace hFF := ((hFF.alloc _).alloc _).trans hF2); (have lX := hX.lt); (have lR := hR.lt); (have lL := hL.lt); (have kL := (hL.alloc (.cells #[.int .i64 (line), .int .i64 (j), .int .i64 (c), .int .i64 (m), .int .u64 (a), .int .u64 (p), .bool (found), .int .i64 (tail), .int .i64 (cyc)] 86)).cell); (have kR := (hR.alloc (.cells #[.int .i64 (line), .int .i64 (j), .int .i64 (c), .int .i64 (m), .int .u64 (a), .int .u64 (p), .bool (found), .int .i64 (tail), .int .i64 (cyc)] 86)).cell); (have fR := (hR.alloc (.cells #[.int .i64 (line), .int .i64 (j), .int .i64 (c), .int .i64 (m), .int .u64 (a), .int .u64 (p), .bool (found), .int .i64 (tail), .int .i64 (cyc)] 86)).free); (have kX1 := (hX.alloc (.cells #[.int .i64 (line), .int .i64 (j), .int .i64 (c), .int .i64 (m), .int .u64 (a), .int .u64 (p), .bool (found), .int .i64 (tail), .int .i64 (cyc)] 86)).cell); (have kL0 := hL.cell); (have kR0 := hR.cell); (have fR0 := hR.free); (have kX0 := hX.cell); (have kX := ((hX.alloc (.cells #[.int .i64 (line), .int .i64 (j), .int .i64 (c), .int .i64 (m), .int .u64 (a), .int .u64 (p), .bool (found), .int .i64 (tail), .int .i64 (cyc)] 86)).alloc (.cells #[.func (.func 64) #[] #[]] 162)).cell)))
  rw [rounds_succ]
  go_wp2_with (first | (go_at_call 64; refine (L3.out _ ((HH.alloc _).alloc _)).mono ?_; rintro e w7 ⟨rfl, HH, hF2⟩; (replace hX := ((hX.alloc _).alloc _).kept hF2 nX); (replace hR := ((hR.alloc _).alloc _).kept hF2 nR); (replace hL := ((hL.alloc _).alloc _).kept hF2 nL); (replace hFF := ((hFF.alloc _).alloc _).trans hF2); (have lX := hX.lt); (have lR := hR.lt); (have lL := hL.lt); (have kL := (hL.alloc (.cells #[.int .i64 (line2), .int .i64 (j2), .int .i64 (c2), .int .i64 (m2), .int .u64 (a2), .int .u64 (p2), .bool (found2), .int .i64 (tail2), .int .i64 (cyc2)] 86)).cell); (have kR := (hR.alloc (.cells #[.int .i64 (line2), .int .i64 (j2), .int .i64 (c2), .int .i64 (m2), .int .u64 (a2), .int .u64 (p2), .bool (found2), .int .i64 (tail2), .int .i64 (cyc2)] 86)).cell); (have fR := (hR.alloc (.cells #[.int .i64 (line2), .int .i64 (j2), .int .i64 (c2), .int .i64 (m2), .int .u64 (a2), .int .u64 (p2), .bool (found2), .int .i64 (tail2), .int .i64 (cyc2)] 86)).free); (have kX1 := (hX.alloc (.cells #[.int .i64 (line2), .int .i64 (j2), .int .i64 (c2), .int .i64 (m2), .int .u64 (a2), .int .u64 (p2), .bool (found2), .int .i64 (tail2), .int .i64 (cyc2)] 86)).cell); (have kL0 := hL.cell); (have kR0 := hR.cell); (have fR0 := hR.free); (have kX0 := hX.cell)))
  have hZ := (hR.set9 (.int .i64 (line2)) (.int .i64 (j2)) (.int .i64 (c2)) (.int .i64 (m2)) (.int .u64 (a2)) (.int .u64 (p2)) (.bool (found2)) (.int .i64 (tail2)) (.int .i64 (cyc2))).alloc (.cells #[.int .i64 (line2), .int .i64 (j2), .int .i64 (c2), .int .i64 (m2), .int .u64 (a2), .int .u64 (p2), .bool (found2), .int .i64 (tail2), .int .i64 (cyc2)] 86)
  have kZ := hZ.cell
  refine bodyPost_ret (v := .tuple #[.agg #[.int .i64 (line2), .int .i64 (j2), .int .i64 (c2), .int .i64 (m2), .int .u64 (a2), .int .u64 (p2), .bool (found2), .int .i64 (tail2), .int .i64 (cyc2)], .int .i64 wh]) (by simp [results, Try.results86, go_sem, kZ]) rfl ⟨rfl, ?_, ?_⟩
  · repeat (first | with_reducible exact HH | with_reducible refine HAt.alloc ?_ _ | with_reducible refine HAt.other ?_ b1 b3 b2 _)
  · repeat (first | with_reducible exact hFF | with_reducible refine Fr.alloc ?_ _ | with_reducible refine Fr.setNew ?_ (Nat.le_succ _) _)

set_option maxRecDepth 100000 in
set_option maxHeartbeats 8000000 in
theorem col_off {w : World} {h ab db : Nat} {s : HS} (H : HAt w h ab db s) (x : ColV) (hx : x.Wf) (hn : x.Near) (i0 : (rsM s.clear x).is = false) (i1 : (passM s.clear x).is = false) (i2 : (barM s.clear x).is = false) (i3 : (swM s.clear x).is = false) :
    Calls Try.prog 86 #[.pointer (some ⟨h, 0, none⟩), x.val] w fun e w' => e = .returned (.tuple #[x.val, .int .i64 0]) ∧ HAt w' h ab db s.clear ∧ Fr [h, db] w w' := by
  have L0 := fun W (H : HAt W h ab db s.clear) => layer0_any H x hx hn
  rw [rsM_no i0] at L0
  have L1 := fun W (H : HAt W h ab db s.clear) => layer1_any H x hx hn
  rw [passM_no i1] at L1
  have L2 := fun W (H : HAt W h ab db s.clear) => layer2_any H x hx hn
  rw [barM_no i2] at L2
  simp only [Bool.false_eq_true, if_false] at L2
  have L3 := fun W (H : HAt W h ab db s.clear) => sw_any H x hx hn
  rw [swM_no i3] at L3
  clear hx hn i0 i1 i2 i3
  have HCl := hid (fun W (H : HAt W h ab db s) => hclear_any H)
  obtain ⟨sc, hsc⟩ : ∃ z, z = s.clear := ⟨_, rfl⟩
  rw [← hsc] at HCl L0 L1 L2 L3 ⊢
  clear hsc
  obtain ⟨line, j, c, m, a, p, found, tail, cyc⟩ := x
  simp only [ColV.val] at L0 L1 L2 L3 ⊢
  replace L0 := hid L0
  replace L1 := hid L1
  replace L2 := hid L2
  replace L3 := hid L3
  have n0 := H.blk.lt
  have n1 := H.ar.dat.lt
  have n2 := H.ar.hdr.lt
  have hX := (Blk.new w [.int .i64 (line), .int .i64 (j), .int .i64 (c), .int .i64 (m), .int .u64 (a), .int .u64 (p), .bool (found), .int .i64 (tail), .int .i64 (cyc)] 86).alloc (.cells #[.int .i64 (0), .int .i64 (0), .int .i64 (0), .int .i64 (0), .int .u64 (0), .int .u64 (0), .bool (false), .int .i64 (0), .int .i64 (0)] 86)
  have hR := Blk.new (w.alloc (.cells #[.int .i64 (line), .int .i64 (j), .int .i64 (c), .int .i64 (m), .int .u64 (a), .int .u64 (p), .bool (found), .int .i64 (tail), .int .i64 (cyc)] 86)) zCol 86
  simp only [World.size_alloc] at hR
  have HH := (H.alloc (.cells #[.int .i64 (line), .int .i64 (j), .int .i64 (c), .int .i64 (m), .int .u64 (a), .int .u64 (p), .bool (found), .int .i64 (tail), .int .i64 (cyc)] 86)).alloc (.cells #[.int .i64 (0), .int .i64 (0), .int .i64 (0), .int .i64 (0), .int .u64 (0), .int .u64 (0), .bool (false), .int .i64 (0), .int .i64 (0)] 86)
  have hFF := ((Fr.refl [h, db] w).alloc (.cells #[.int .i64 (line), .int .i64 (j), .int .i64 (c), .int .i64 (m), .int .u64 (a), .int .u64 (p), .bool (found), .int .i64 (tail), .int .i64 (cyc)] 86)).alloc (.cells #[.int .i64 (0), .int .i64 (0), .int .i64 (0), .int .i64 (0), .int .u64 (0), .int .u64 (0), .bool (false), .int .i64 (0), .int .i64 (0)] 86)
  have nX : w.heap.size ∉ [h, db] := by simp; omega
  have nR : w.heap.size + 1 ∉ [h, db] := by simp; omega
  have b1 : h ≠ w.heap.size + 1 := by omega
  have b2 : db ≠ w.heap.size + 1 := by omega
  have b3 : ab ≠ w.heap.size + 1 := by omega
  clear H
  simp only [zCol] at hR
  go_enter Try.func86, Try.ntmps86
  go_wp2_with (first | (go_at_call 146; refine (HCl.out _ HH).mono ?_; rintro e w2 ⟨rfl, HH, hF2⟩; (replace hX := hX.kept hF2 nX); (replace hR := hR.kept hF2 nR); (replace hFF := hFF.trans hF2); (have lX := hX.lt); (have lR := hR.lt)) | (go_at_call 147; refine (layers_any _).mono ?_; rintro e w3 ⟨rfl, rfl⟩))
  have hL := Blk.new w2 [.func (.func 162) #[] #[], .func (.func 163) #[] #[], .func (.func 164) #[] #[], .func (.func 64) #[] #[]] 162
  have l1 := HH.blk.lt
  have l2 := HH.ar.dat.lt
  have nL : w2.heap.size ∉ [h, db] := by simp; omega
  have kL := hL.cell
  have lL := hL.lt
  have kX := ((hX.alloc (.cells #[.func (.func 162) #[] #[], .func (.func 163) #[] #[], .func (.func 164) #[] #[], .func (.func 64) #[] #[]] 162)).alloc (.cells #[.func (.func 162) #[] #[]] 162)).cell
  refine wp_loop_rounds 5 ?_
  rw [rounds_succ]
  go_wp2_with (first | (go_at_call 162; refine (L0.out _ ((HH.alloc _).alloc _)).mono ?_; rintro e w4 ⟨rfl, HH, hF2⟩; (replace hX := ((hX.alloc _).alloc _).kept hF2 nX); (replace hR := ((hR.alloc _).alloc _).kept hF2 nR); (replace hL := (hL.alloc _).kept hF2 nL); (replace hFF := ((hFF.alloc _).alloc _).trans hF2); (have lX := hX.lt); (have lR := hR.lt); (have lL := hL.lt); (have kL := (hL.alloc (.cells #[.int .i64 (line), .int .i64 (j), .int .i64 (c), .int .i64 (m), .int .u64 (a), .int .u64 (p), .bool (found), .int .i64 (tail), .int .i64 (cyc)] 86)).cell); (have kR := (hR.alloc (.cells #[.int .i64 (line), .int .i64 (j), .int .i64 (c), .int .i64 (m), .int .u64 (a), .int .u64 (p), .bool (found), .int .i64 (tail), .int .i64 (cyc)] 86)).cell); (have fR := (hR.alloc (.cells #[.int .i64 (line), .int .i64 (j), .int .i64 (c), .int .i64 (m), .int .u64 (a), .int .u64 (p), .bool (found), .int .i64 (tail), .int .i64 (cyc)] 86)).free); (have kX1 := (hX.alloc (.cells #[.int .i64 (line), .int .i64 (j), .int .i64 (c), .int .i64 (m), .int .u64 (a), .int .u64 (p), .bool (found), .int .i64 (tail), .int .i64 (cyc)] 86)).cell); (have kL0 := hL.cell); (have kR0 := hR.cell); (have fR0 := hR.free); (have kX0 := hX.cell); (have kX := ((hX.alloc (.cells #[.int .i64 (line), .int .i64 (j), .int .i64 (c), .int .i64 (m), .int .u64 (a), .int .u64 (p), .bool (found), .int .i64 (tail), .int .i64 (cyc)] 86)).alloc (.cells #[.func (.func 163) #[] #[]] 162)).cell)))
  rw [rounds_succ]
  go_wp2_with (first | (go_at_call 163; refine (L1.out _ ((HH.alloc _).alloc _)).mono ?_; rintro e w5 ⟨rfl, HH, hF2⟩; (replace hX := ((hX.alloc _).alloc _).kept hF2 nX); (replace hR := ((hR.alloc _).alloc _).kept hF2 nR); (replace hL := ((hL.alloc _).alloc _).kept hF2 nL); (replace hFF := ((hFF.alloc _).alloc _).trans hF2); (have lX := hX.lt); (have lR := hR.lt); (have lL := hL.lt); (have kL := (hL.alloc (.cells #[.int .i64 (line), .int .i64 (j), .int .i64 (c), .int .i64 (m), .int .u64 (a), .int .u64 (p), .bool (found), .int .i64 (tail), .int .i64 (cyc)] 86)).cell); (have kR := (hR.alloc (.cells #[.int .i64 (line), .int .i64 (j), .int .i64 (c), .int .i64 (m), .int .u64 (a), .int .u64 (p), .bool (found), .int .i64 (tail), .int .i64 (cyc)] 86)).cell); (have fR := (hR.alloc (.cells #[.int .i64 (line), .int .i64 (j), .int .i64 (c), .int .i64 (m), .int .u64 (a), .int .u64 (p), .bool (found), .int .i64 (tail), .int .i64 (cyc)] 86)).free); (have kX1 := (hX.alloc (.cells #[.int .i64 (line), .int .i64 (j), .int .i64 (c), .int .i64 (m), .int .u64 (a), .int .u64 (p), .bool (found), .int .i64 (tail), .int .i64 (cyc)] 86)).cell); (have kL0 := hL.cell); (have kR0 := hR.cell); (have fR0 := hR.free); (have kX0 := hX.cell); (have kX := ((hX.alloc (.cells #[.int .i64 (line), .int .i64 (j), .int .i64 (c), .int .i64 (m), .int .u64 (a), .int .u64 (p), .bool (found), .int .i64 (tail), .int .i64 (cyc)] 86)).alloc (.cells #[.func (.func 164) #[] #[]] 162)).cell)))
  rw [rounds_succ]
  go_wp2_with (first | (go_at_call 164; refine (L2.out _ ((HH.alloc _).alloc _)).mono ?_; rintro e w6 ⟨rfl, HH, hF2⟩; (replace hX := ((hX.alloc _).alloc _).kept hF2 nX); (replace hR := ((hR.alloc _).alloc _).kept hF2 nR); (replace hL := ((hL.alloc _).alloc _).kept hF2 nL); (replace hFF := ((hFF.alloc _).alloc _).trans hF2); (have lX := hX.lt); (have lR := hR.lt); (have lL := hL.lt); (have kL := (hL.alloc (.cells #[.int .i64 (line), .int .i64 (j), .int .i64 (c), .int .i64 (m), .int .u64 (a), .int .u64 (p), .bool (found), .int .i64 (tail), .int .i64 (cyc)] 86)).cell); (have kR := (hR.alloc (.cells #[.int .i64 (line), .int .i64 (j), .int .i64 (c), .int .i64 (m), .int .u64 (a), .int .u64 (p), .bool (found), .int .i64 (tail), .int .i64 (cyc)] 86)).cell); (have fR := (hR.alloc (.cells #[.int .i64 (line), .int .i64 (j), .int .i64 (c), .int .i64 (m), .int .u64 (a), .int .u64 (p), .bool (found), .int .i64 (tail), .int .i64 (cyc)] 86)).free); (have kX1 := (hX.alloc (.cells #[.int .i64 (line), .int .i64 (j), .int .i64 (c), .int .i64 (m), .int .u64 (a), .int .u64 (p), .bool (found), .int .i64 (tail), .int .i64 (cyc)] 86)).cell); (have kL0 := hL.cell); (have kR0 := hR.cell); (have fR0 := hR.free); (have kX0 := hX.cell); (have kX := ((hX.alloc (.cells #[.int .i64 (line), .int .i64 (j), .int .i64 (c), .int .i64 (m), .int .u64 (a), .int .u64 (p), .bool (found), .int .i64 (tail), .int .i64 (cyc)] 86)).alloc (.cells #[.func (.func 64) #[] #[]] 162)).cell)))
  rw [rounds_succ]
  go_wp2_with (first | (go_at_call 64; refine (L3.out _ ((HH.alloc _).alloc _)).mono ?_; rintro e w7 ⟨rfl, HH, hF2⟩; (replace hX := ((hX.alloc _).alloc _).kept hF2 nX); (replace hR := ((hR.alloc _).alloc _).kept hF2 nR); (replace hL := ((hL.alloc _).alloc _).kept hF2 nL); (replace hFF := ((hFF.alloc _).alloc _).trans hF2); (have lX := hX.lt); (have lR := hR.lt); (have lL := hL.lt); (have kL := (hL.alloc (.cells #[.int .i64 (line), .int .i64 (j), .int .i64 (c), .int .i64 (m), .int .u64 (a), .int .u64 (p), .bool (found), .int .i64 (tail), .int .i64 (cyc)] 86)).cell); (have kR := (hR.alloc (.cells #[.int .i64 (line), .int .i64 (j), .int .i64 (c), .int .i64 (m), .int .u64 (a), .int .u64 (p), .bool (found), .int .i64 (tail), .int .i64 (cyc)] 86)).cell); (have fR := (hR.alloc (.cells #[.int .i64 (line), .int .i64 (j), .int .i64 (c), .int .i64 (m), .int .u64 (a), .int .u64 (p), .bool (found), .int .i64 (tail), .int .i64 (cyc)] 86)).free); (have kX1 := (hX.alloc (.cells #[.int .i64 (line), .int .i64 (j), .int .i64 (c), .int .i64 (m), .int .u64 (a), .int .u64 (p), .bool (found), .int .i64 (tail), .int .i64 (cyc)] 86)).cell); (have kL0 := hL.cell); (have kR0 := hR.cell); (have fR0 := hR.free); (have kX0 := hX.cell)))
  rw [rounds_succ]
  go_wp2_with fail
  have hZ := (hR.set9 (.int .i64 (line)) (.int .i64 (j)) (.int .i64 (c)) (.int .i64 (m)) (.int .u64 (a)) (.int .u64 (p)) (.bool (found)) (.int .i64 (tail)) (.int .i64 (cyc))).alloc (.cells #[.int .i64 (line), .int .i64 (j), .int .i64 (c), .int .i64 (m), .int .u64 (a), .int .u64 (p), .bool (found), .int .i64 (tail), .int .i64 (cyc)] 86)
  have kZ := hZ.cell
  refine bodyPost_ret (v := .tuple #[.agg #[.int .i64 (line), .int .i64 (j), .int .i64 (c), .int .i64 (m), .int .u64 (a), .int .u64 (p), .bool (found), .int .i64 (tail), .int .i64 (cyc)], .int .i64 0]) (by simp [results, Try.results86, go_sem, kZ]) rfl ⟨rfl, ?_, ?_⟩
  · repeat (first | with_reducible exact HH | with_reducible refine HAt.alloc ?_ _ | with_reducible refine HAt.other ?_ b1 b3 b2 _)
  · repeat (first | with_reducible exact hFF | with_reducible refine Fr.alloc ?_ _ | with_reducible refine Fr.setNew ?_ (Nat.le_succ _) _)

theorem col_any {w : World} {h ab db : Nat} {s : HS} (H : HAt w h ab db s) (x : ColV) (hx : x.Wf) (hn : x.Near) :
    Calls Try.prog 86 #[.pointer (some ⟨h, 0, none⟩), x.val] w fun e w' => e = .returned (.tuple #[(colM s x).x.val, .int .i64 (colM s x).what]) ∧ HAt w' h ab db (colM s x).s ∧ Fr [h, db] w w' := by
  unfold colM colStep
  by_cases i0 : (rsM s.clear x).is = true
  · rw [if_pos i0]; exact col_on0 H x hx hn i0
  rw [if_neg i0]
  by_cases i1 : (passM s.clear x).is = true
  · rw [if_pos i1]; exact col_on1 H x hx hn (by simpa using i0) i1
  rw [if_neg i1]
  by_cases i2 : (barM s.clear x).is = true
  · rw [if_pos i2]; exact col_on2 H x hx hn (by simpa using i0) (by simpa using i1) i2
  rw [if_neg i2]
  by_cases i3 : (swM s.clear x).is = true
  · rw [if_pos i3]; exact col_on3 H x hx hn (by simpa using i0) (by simpa using i1) (by simpa using i2) i3
  rw [if_neg i3]
  exact col_off H x hx hn (by simpa using i0) (by simpa using i1) (by simpa using i2) (by simpa using i3)

end Go.Proofs.Yteggckdgjecfmaa
