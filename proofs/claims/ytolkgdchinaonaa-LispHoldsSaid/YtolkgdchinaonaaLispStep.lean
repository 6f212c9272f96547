/- lisp.Step, by the machine that has the line. -/
import Derived.Test.YtolkgdchinaonaaSBox
import Derived.Test.YtolkgdchinaonaaLispMap
import Derived.Test.YtolkgdchinaonaaGate
import Derived.Test.YtolkgdchinaonaaTkAny
import Derived.Test.YtolkgdchinaonaaPopAny
import Derived.Test.YtolkgdchinaonaaBarAny
namespace Go.Proofs.Ytolkgdchinaonaa
open Go.RowKit
set_option linter.unusedVariables false
set_option linter.unusedSimpArgs false

theorem hclr_any {w : World} {h ab db : Nat} {s : HS} (H : HAt w h ab db s) : Calls Try.prog 148 #[.pointer (some ⟨h, 0, none⟩)] w fun e w' => e = .returned (.tuple #[]) ∧ HAt w' h ab db s.clear ∧ Fr [h, db] w w' := clear_any H
theorem gateM_no {s : HS} {m : Int} {x : MutV} (h : (gateM s m x).is = false) : gateM s m x = ⟨x, false, s⟩ := by
  unfold gateM at h ⊢
  repeat' split at h
  all_goals first | cases h | skip
  all_goals simp_all
theorem tkM_no {s : HS} {x : MutV} (h : (tkM s x).is = false) : tkM s x = ⟨x, false, s⟩ := by
  unfold tkM at h ⊢
  repeat' split at h
  all_goals first | cases h | skip
  all_goals simp_all
theorem popM_no {s : HS} {x : MutV} (h : (popM s x).is = false) : popM s x = ⟨x, false, false, s⟩ := by
  unfold popM at h ⊢
  repeat' split at h
  all_goals first | cases h | skip
  all_goals simp_all
theorem brM_no {s : HS} {x : MutV} (h : (brM s x).is = false) : brM s x = ⟨x, false, s⟩ := by
  unfold brM at h ⊢
  repeat' split at h
  all_goals first | cases h | skip
  all_goals simp_all
set_option maxRecDepth 100000 in
set_option maxHeartbeats 8000000 in
theorem lisp_g {w : World} {h ab db : Nat} {s : HS} (H : HAt w h ab db s) (mm : Int) (x : MutV) (hx : x.Wf) (ig : (gateM s.clear mm x).is = true) :
    Calls Try.prog 150 #[.pointer (some ⟨h, 0, none⟩), .int .i64 mm, x.val] w fun e w' => e = .returned (.tuple #[(gateM s.clear mm x).x.val, .bool false, .bool ((gateM s.clear mm x).x.line == 0)]) ∧ HAt w' h ab db ((gateM s.clear mm x).s) ∧ Fr [h, db] w w' := by
  have HG := fun W (H : HAt W h ab db s.clear) => gate_any H mm x
  rw [ig] at HG
  obtain ⟨y, hy⟩ : ∃ z, z = (gateM s.clear mm x).x := ⟨_, rfl⟩
  obtain ⟨s2, hs2⟩ : ∃ z, z = (gateM s.clear mm x).s := ⟨_, rfl⟩
  rw [← hy, ← hs2] at HG ⊢
  clear hy hs2
  obtain ⟨line2, ok2, oa2, ob2, oc2, a2, b2, c2, n2, t2, p2, back2, ret2⟩ := y
  clear hx ig
  have HCl := hid (fun W (H : HAt W h ab db s) => hclr_any H)
  obtain ⟨sc, hsc⟩ : ∃ z, z = s.clear := ⟨_, rfl⟩
  rw [← hsc] at HCl HG
  clear hsc
  obtain ⟨line, ok, oa, ob, oc, a, b, c, n, t, p, back, ret⟩ := x
  simp only [MutV.val] at HG ⊢
  replace HG := hid HG
  have q0 := H.blk.lt
  have q1 := H.ar.dat.lt
  have q2 := H.ar.hdr.lt
  have hX := (Blk.new w [.int .i64 line, .int .i64 ok, .int .i64 oa, .int .i64 ob, .int .i64 oc, .int .u64 a, .int .u64 b, .int .u64 c, .int .u64 n, .int .u64 t, .int .u64 p, .int .i64 back, .int .i64 ret] 54).alloc (.cells #[.int .i64 0, .int .i64 0, .int .i64 0, .int .i64 0, .int .i64 0, .int .u64 0, .int .u64 0, .int .u64 0, .int .u64 0, .int .u64 0, .int .u64 0, .int .i64 0, .int .i64 0] 54)
  have hR := Blk.new (w.alloc (.cells #[.int .i64 line, .int .i64 ok, .int .i64 oa, .int .i64 ob, .int .i64 oc, .int .u64 a, .int .u64 b, .int .u64 c, .int .u64 n, .int .u64 t, .int .u64 p, .int .i64 back, .int .i64 ret] 54)) zMut 54
  simp only [World.size_alloc] at hR
  have HH := (H.alloc (.cells #[.int .i64 line, .int .i64 ok, .int .i64 oa, .int .i64 ob, .int .i64 oc, .int .u64 a, .int .u64 b, .int .u64 c, .int .u64 n, .int .u64 t, .int .u64 p, .int .i64 back, .int .i64 ret] 54)).alloc (.cells #[.int .i64 0, .int .i64 0, .int .i64 0, .int .i64 0, .int .i64 0, .int .u64 0, .int .u64 0, .int .u64 0, .int .u64 0, .int .u64 0, .int .u64 0, .int .i64 0, .int .i64 0] 54)
  have hFF := ((Fr.refl [h, db] w).alloc (.cells #[.int .i64 line, .int .i64 ok, .int .i64 oa, .int .i64 ob, .int .i64 oc, .int .u64 a, .int .u64 b, .int .u64 c, .int .u64 n, .int .u64 t, .int .u64 p, .int .i64 back, .int .i64 ret] 54)).alloc (.cells #[.int .i64 0, .int .i64 0, .int .i64 0, .int .i64 0, .int .i64 0, .int .u64 0, .int .u64 0, .int .u64 0, .int .u64 0, .int .u64 0, .int .u64 0, .int .i64 0, .int .i64 0] 54)
  have nX : w.heap.size ∉ [h, db] := by simp; omega
  have nR : w.heap.size + 1 ∉ [h, db] := by simp; omega
  have d1 : h ≠ w.heap.size + 1 := by omega
  have d2 : db ≠ w.heap.size + 1 := by omega
  have d3 : ab ≠ w.heap.size + 1 := by omega
  clear H
  simp only [zMut] at hR
  have kX := hX.cell
  have kR := hR.cell
  have fR := hR.free
  go_enter Try.func150, Try.ntmps150
  go_wp2_with (first | (go_at_call 148; refine (HCl.out _ HH).mono ?_; rintro e w2 ⟨rfl, HH, hF2⟩; (replace hX := hX.kept hF2 nX); (replace hR := hR.kept hF2 nR); (replace hFF := hFF.trans hF2); (have lX := hX.lt); (have lR := hR.lt); (replace kX := hX.cell); (replace kR := hR.cell); (replace fR := hR.free)) | (go_at_call 41; refine (HG.out _ HH).mono ?_; rintro e w4 ⟨rfl, HH, hF2⟩; (replace hX := hX.kept hF2 nX); (replace hR := hR.kept hF2 nR); (replace hFF := hFF.trans hF2); (replace lX := hX.lt); (replace lR := hR.lt); (have hY := Blk.new w4 [.int .i64 line2, .int .i64 ok2, .int .i64 oa2, .int .i64 ob2, .int .i64 oc2, .int .u64 a2, .int .u64 b2, .int .u64 c2, .int .u64 n2, .int .u64 t2, .int .u64 p2, .int .i64 back2, .int .i64 ret2] 54); (have kY := hY.cell); (replace kX := (hX.alloc (.cells #[.int .i64 line2, .int .i64 ok2, .int .i64 oa2, .int .i64 ob2, .int .i64 oc2, .int .u64 a2, .int .u64 b2, .int .u64 c2, .int .u64 n2, .int .u64 t2, .int .u64 p2, .int .i64 back2, .int .i64 ret2] 54)).cell); (replace kR := (hR.alloc (.cells #[.int .i64 line2, .int .i64 ok2, .int .i64 oa2, .int .i64 ob2, .int .i64 oc2, .int .u64 a2, .int .u64 b2, .int .u64 c2, .int .u64 n2, .int .u64 t2, .int .u64 p2, .int .i64 back2, .int .i64 ret2] 54)).cell); (replace fR := (hR.alloc (.cells #[.int .i64 line2, .int .i64 ok2, .int .i64 oa2, .int .i64 ob2, .int .i64 oc2, .int .u64 a2, .int .u64 b2, .int .u64 c2, .int .u64 n2, .int .u64 t2, .int .u64 p2, .int .i64 back2, .int .i64 ret2] 54)).free); (have kR0 := hR.cell); (have fR0 := hR.free); (have kX0 := hX.cell)))
  obtain ⟨W9, yb, hW9, hyb, B⟩ : ∃ W9 yb, W9 = w4.alloc (.cells #[.int .i64 line2, .int .i64 ok2, .int .i64 oa2, .int .i64 ob2, .int .i64 oc2, .int .u64 a2, .int .u64 b2, .int .u64 c2, .int .u64 n2, .int .u64 t2, .int .u64 p2, .int .i64 back2, .int .i64 ret2] 54) ∧ yb = w4.heap.size ∧ SB w h ab db yb _ zMut 54 [.int .i64 line2, .int .i64 ok2, .int .i64 oa2, .int .i64 ob2, .int .i64 oc2, .int .u64 a2, .int .u64 b2, .int .u64 c2, .int .u64 n2, .int .u64 t2, .int .u64 p2, .int .i64 back2, .int .i64 ret2] W9 := ⟨_, _, rfl, rfl, HH.alloc _, hR.alloc _, hY, hFF.alloc _, q0, q2, q1, by omega⟩
  rw [← hW9, ← hyb]
  clear hW9 hyb hX hR hFF HH hY kX kR fR kY kR0 fR0 kX0
  replace B := B.drew
  refine wp_region_held_drew (S := (fun (W : World) => W.cell? ⟨yb, 0, none⟩ = some (.int .i64 line2) ∧ W.cell? ⟨yb, 1, none⟩ = some (.int .i64 ok2) ∧ W.cell? ⟨yb, 2, none⟩ = some (.int .i64 oa2) ∧ W.cell? ⟨yb, 3, none⟩ = some (.int .i64 ob2) ∧ W.cell? ⟨yb, 4, none⟩ = some (.int .i64 oc2) ∧ W.cell? ⟨yb, 5, none⟩ = some (.int .u64 a2) ∧ W.cell? ⟨yb, 6, none⟩ = some (.int .u64 b2) ∧ W.cell? ⟨yb, 7, none⟩ = some (.int .u64 c2) ∧ W.cell? ⟨yb, 8, none⟩ = some (.int .u64 n2) ∧ W.cell? ⟨yb, 9, none⟩ = some (.int .u64 t2) ∧ W.cell? ⟨yb, 10, none⟩ = some (.int .u64 p2) ∧ W.cell? ⟨yb, 11, none⟩ = some (.int .i64 back2) ∧ W.cell? ⟨yb, 12, none⟩ = some (.int .i64 ret2))) (by kernel_rfl) (by exact ⟨B.y.cell 0, B.y.cell 1, B.y.cell 2, B.y.cell 3, B.y.cell 4, B.y.cell 5, B.y.cell 6, B.y.cell 7, B.y.cell 8, B.y.cell 9, B.y.cell 10, B.y.cell 11, B.y.cell 12⟩) (fun hHeld => ?_)
  obtain ⟨W8, hW8, B8⟩ : ∃ W8, W8 = W9.drew ∧ SB w h ab db _ _ _ _ _ W8 := ⟨_, rfl, B⟩
  rw [← hW8] at hHeld ⊢
  clear B hW8
  have B := B8
  clear B8
  refine wpAnyH_take (i := 0) (v := ?_) rfl (by kernel_rfl) (by kernel_rfl) (by kernel_rfl) (fun _ _ _ h => h) (Or.inl ⟨by rfl, ?_⟩) (by assumption) ?_
  rotate_left
  · intro w hSw; (try dsimp only at hSw); go_simp; first | done | with_reducible rfl
  try simp only [Act.put, List.getElem_toArray, List.getElem_cons_succ, List.getElem_cons_zero, List.setIfInBounds_toArray, List.set_cons_zero, List.set_cons_succ]
  refine wpAnyH_take (i := 1) (v := ?_) rfl (by kernel_rfl) (by kernel_rfl) (by kernel_rfl) (fun _ _ _ h => h) (Or.inl ⟨by rfl, ?_⟩) (by assumption) ?_
  rotate_left
  · intro w hSw; (try dsimp only at hSw); go_simp; first | done | with_reducible rfl
  try simp only [Act.put, List.getElem_toArray, List.getElem_cons_succ, List.getElem_cons_zero, List.setIfInBounds_toArray, List.set_cons_zero, List.set_cons_succ]
  refine wpAnyH_take (i := 2) (v := ?_) rfl (by kernel_rfl) (by kernel_rfl) (by kernel_rfl) (fun _ _ _ h => h) (Or.inl ⟨by rfl, ?_⟩) (by assumption) ?_
  rotate_left
  · intro w hSw; (try dsimp only at hSw); go_simp; first | done | with_reducible rfl
  try simp only [Act.put, List.getElem_toArray, List.getElem_cons_succ, List.getElem_cons_zero, List.setIfInBounds_toArray, List.set_cons_zero, List.set_cons_succ]
  refine wpAnyH_take (i := 3) (v := ?_) rfl (by kernel_rfl) (by kernel_rfl) (by kernel_rfl) (fun _ _ _ h => h) (Or.inl ⟨by rfl, ?_⟩) (by assumption) ?_
  rotate_left
  · intro w hSw; (try dsimp only at hSw); go_simp; first | done | with_reducible rfl
  try simp only [Act.put, List.getElem_toArray, List.getElem_cons_succ, List.getElem_cons_zero, List.setIfInBounds_toArray, List.set_cons_zero, List.set_cons_succ]
  refine wpAnyH_ready (rs := [4]) (by kernel_rfl) (by simp) ?_
  refine AllReadyH.cons rfl (fun K hK => ?_) AllReadyH.nil
  have kR := B.r.cell
  have fR := B.r.free
  go_simp
  replace B := B.ret (.int .i64 line2) (.int .i64 ok2) (.int .i64 oa2) (.int .i64 ob2) (.int .i64 oc2) (.int .u64 a2) (.int .u64 b2) (.int .u64 c2) (.int .u64 n2) (.int .u64 t2) (.int .u64 p2) (.int .i64 back2) (.int .i64 ret2)
  refine hK.out _ _ (by exact ⟨B.y.cell 0, B.y.cell 1, B.y.cell 2, B.y.cell 3, B.y.cell 4, B.y.cell 5, B.y.cell 6, B.y.cell 7, B.y.cell 8, B.y.cell 9, B.y.cell 10, B.y.cell 11, B.y.cell 12⟩) (fun hHeld => ?_)
  clear hK K
  try simp only [Act.put, List.getElem_toArray, List.getElem_cons_succ, List.getElem_cons_zero, List.setIfInBounds_toArray, List.set_cons_zero, List.set_cons_succ]
  refine wpAnyH_take (i := 5) (v := ?_) rfl (by kernel_rfl) (by kernel_rfl) (by kernel_rfl) (fun _ _ _ h => h) (Or.inl ⟨by rfl, ?_⟩) (by assumption) ?_
  rotate_left
  · intro w hSw; (try dsimp only at hSw); go_simp; first | done | with_reducible rfl
  try simp only [Act.put, List.getElem_toArray, List.getElem_cons_succ, List.getElem_cons_zero, List.setIfInBounds_toArray, List.set_cons_zero, List.set_cons_succ]
  refine wpAnyH_take (i := 6) (v := ?_) rfl (by kernel_rfl) (by kernel_rfl) (by kernel_rfl) (fun _ _ _ h => h) (Or.inl ⟨by rfl, ?_⟩) (by assumption) ?_
  rotate_left
  · intro w hSw; (try dsimp only at hSw); go_simp; first | done | with_reducible rfl
  try simp only [Act.put, List.getElem_toArray, List.getElem_cons_succ, List.getElem_cons_zero, List.setIfInBounds_toArray, List.set_cons_zero, List.set_cons_succ]
  refine wpAnyH_done (by kernel_rfl) ?_ _
  clear hHeld
  obtain ⟨W9, hW9, B9⟩ : ∃ W9, W9 = _ ∧ SB w h ab db _ _ _ _ _ W9 := ⟨_, rfl, B⟩
  rw [← hW9]
  clear B hW9
  have B := B9
  clear B9
  have kR := B.r.cell
  go_wp2_with fail
  refine bodyPost_ret (v := .tuple #[.agg #[.int .i64 line2, .int .i64 ok2, .int .i64 oa2, .int .i64 ob2, .int .i64 oc2, .int .u64 a2, .int .u64 b2, .int .u64 c2, .int .u64 n2, .int .u64 t2, .int .u64 p2, .int .i64 back2, .int .i64 ret2], .bool false, .bool (line2 == 0)]) (by simp [results, Try.results150, go_sem, kR]) rfl ⟨rfl, ?_, ?_⟩
  · exact B.H
  · exact B.f

set_option maxRecDepth 100000 in
set_option maxHeartbeats 8000000 in
theorem lisp_t {w : World} {h ab db : Nat} {s : HS} (H : HAt w h ab db s) (mm : Int) (x : MutV) (hx : x.Wf) (ig : (gateM s.clear mm x).is = false) (it : (tkM s.clear x).is = true) :
    Calls Try.prog 150 #[.pointer (some ⟨h, 0, none⟩), .int .i64 mm, x.val] w fun e w' => e = .returned (.tuple #[(tkM s.clear x).x.val, .bool false, .bool false]) ∧ HAt w' h ab db ((tkM s.clear x).s) ∧ Fr [h, db] w w' := by
  have HG := fun W (H : HAt W h ab db s.clear) => gate_any H mm x
  rw [gateM_no ig] at HG
  have HT := fun W (H : HAt W h ab db s.clear) => tk_any H x
  rw [it] at HT
  obtain ⟨y, hy⟩ : ∃ z, z = (tkM s.clear x).x := ⟨_, rfl⟩
  obtain ⟨s2, hs2⟩ : ∃ z, z = (tkM s.clear x).s := ⟨_, rfl⟩
  rw [← hy, ← hs2] at HT ⊢
  clear hy hs2
  obtain ⟨line2, ok2, oa2, ob2, oc2, a2, b2, c2, n2, t2, p2, back2, ret2⟩ := y
  clear hx ig it
  have HCl := hid (fun W (H : HAt W h ab db s) => hclr_any H)
  obtain ⟨sc, hsc⟩ : ∃ z, z = s.clear := ⟨_, rfl⟩
  rw [← hsc] at HCl HG HT
  clear hsc
  obtain ⟨line, ok, oa, ob, oc, a, b, c, n, t, p, back, ret⟩ := x
  simp only [MutV.val] at HG HT ⊢
  replace HG := hid HG
  replace HT := hid HT
  have q0 := H.blk.lt
  have q1 := H.ar.dat.lt
  have q2 := H.ar.hdr.lt
  have hX := (Blk.new w [.int .i64 line, .int .i64 ok, .int .i64 oa, .int .i64 ob, .int .i64 oc, .int .u64 a, .int .u64 b, .int .u64 c, .int .u64 n, .int .u64 t, .int .u64 p, .int .i64 back, .int .i64 ret] 54).alloc (.cells #[.int .i64 0, .int .i64 0, .int .i64 0, .int .i64 0, .int .i64 0, .int .u64 0, .int .u64 0, .int .u64 0, .int .u64 0, .int .u64 0, .int .u64 0, .int .i64 0, .int .i64 0] 54)
  have hR := Blk.new (w.alloc (.cells #[.int .i64 line, .int .i64 ok, .int .i64 oa, .int .i64 ob, .int .i64 oc, .int .u64 a, .int .u64 b, .int .u64 c, .int .u64 n, .int .u64 t, .int .u64 p, .int .i64 back, .int .i64 ret] 54)) zMut 54
  simp only [World.size_alloc] at hR
  have HH := (H.alloc (.cells #[.int .i64 line, .int .i64 ok, .int .i64 oa, .int .i64 ob, .int .i64 oc, .int .u64 a, .int .u64 b, .int .u64 c, .int .u64 n, .int .u64 t, .int .u64 p, .int .i64 back, .int .i64 ret] 54)).alloc (.cells #[.int .i64 0, .int .i64 0, .int .i64 0, .int .i64 0, .int .i64 0, .int .u64 0, .int .u64 0, .int .u64 0, .int .u64 0, .int .u64 0, .int .u64 0, .int .i64 0, .int .i64 0] 54)
  have hFF := ((Fr.refl [h, db] w).alloc (.cells #[.int .i64 line, .int .i64 ok, .int .i64 oa, .int .i64 ob, .int .i64 oc, .int .u64 a, .int .u64 b, .int .u64 c, .int .u64 n, .int .u64 t, .int .u64 p, .int .i64 back, .int .i64 ret] 54)).alloc (.cells #[.int .i64 0, .int .i64 0, .int .i64 0, .int .i64 0, .int .i64 0, .int .u64 0, .int .u64 0, .int .u64 0, .int .u64 0, .int .u64 0, .int .u64 0, .int .i64 0, .int .i64 0] 54)
  have nX : w.heap.size ∉ [h, db] := by simp; omega
  have nR : w.heap.size + 1 ∉ [h, db] := by simp; omega
  have d1 : h ≠ w.heap.size + 1 := by omega
  have d2 : db ≠ w.heap.size + 1 := by omega
  have d3 : ab ≠ w.heap.size + 1 := by omega
  clear H
  simp only [zMut] at hR
  have kX := hX.cell
  have kR := hR.cell
  have fR := hR.free
  go_enter Try.func150, Try.ntmps150
  go_wp2_with (first | (go_at_call 148; refine (HCl.out _ HH).mono ?_; rintro e w2 ⟨rfl, HH, hF2⟩; (replace hX := hX.kept hF2 nX); (replace hR := hR.kept hF2 nR); (replace hFF := hFF.trans hF2); (have lX := hX.lt); (have lR := hR.lt); (replace kX := hX.cell); (replace kR := hR.cell); (replace fR := hR.free)) | (go_at_call 35; refine (HT.out _ (HH.alloc _)).mono ?_; rintro e w4 ⟨rfl, HH, hF2⟩; (replace hX := (hX.alloc _).kept hF2 nX); (replace hR := (hR.alloc _).kept hF2 nR); (replace hFF := (hFF.alloc _).trans hF2); (replace lX := hX.lt); (replace lR := hR.lt); (have hY := Blk.new w4 [.int .i64 line2, .int .i64 ok2, .int .i64 oa2, .int .i64 ob2, .int .i64 oc2, .int .u64 a2, .int .u64 b2, .int .u64 c2, .int .u64 n2, .int .u64 t2, .int .u64 p2, .int .i64 back2, .int .i64 ret2] 54); (have kY := hY.cell); (replace kX := (hX.alloc (.cells #[.int .i64 line2, .int .i64 ok2, .int .i64 oa2, .int .i64 ob2, .int .i64 oc2, .int .u64 a2, .int .u64 b2, .int .u64 c2, .int .u64 n2, .int .u64 t2, .int .u64 p2, .int .i64 back2, .int .i64 ret2] 54)).cell); (replace kR := (hR.alloc (.cells #[.int .i64 line2, .int .i64 ok2, .int .i64 oa2, .int .i64 ob2, .int .i64 oc2, .int .u64 a2, .int .u64 b2, .int .u64 c2, .int .u64 n2, .int .u64 t2, .int .u64 p2, .int .i64 back2, .int .i64 ret2] 54)).cell); (replace fR := (hR.alloc (.cells #[.int .i64 line2, .int .i64 ok2, .int .i64 oa2, .int .i64 ob2, .int .i64 oc2, .int .u64 a2, .int .u64 b2, .int .u64 c2, .int .u64 n2, .int .u64 t2, .int .u64 p2, .int .i64 back2, .int .i64 ret2] 54)).free); (have kR0 := hR.cell); (have fR0 := hR.free); (have kX0 := hX.cell)) | (go_at_call 41; refine (HG.out _ HH).mono ?_; rintro e w4 ⟨rfl, HH, hF2⟩; (replace hX := hX.kept hF2 nX); (replace hR := hR.kept hF2 nR); (replace hFF := hFF.trans hF2); (replace lX := hX.lt); (replace lR := hR.lt); (have hY := Blk.new w4 [.int .i64 line, .int .i64 ok, .int .i64 oa, .int .i64 ob, .int .i64 oc, .int .u64 a, .int .u64 b, .int .u64 c, .int .u64 n, .int .u64 t, .int .u64 p, .int .i64 back, .int .i64 ret] 54); (have kY := hY.cell); (replace kX := (hX.alloc (.cells #[.int .i64 line, .int .i64 ok, .int .i64 oa, .int .i64 ob, .int .i64 oc, .int .u64 a, .int .u64 b, .int .u64 c, .int .u64 n, .int .u64 t, .int .u64 p, .int .i64 back, .int .i64 ret] 54)).cell); (replace kR := (hR.alloc (.cells #[.int .i64 line, .int .i64 ok, .int .i64 oa, .int .i64 ob, .int .i64 oc, .int .u64 a, .int .u64 b, .int .u64 c, .int .u64 n, .int .u64 t, .int .u64 p, .int .i64 back, .int .i64 ret] 54)).cell); (replace fR := (hR.alloc (.cells #[.int .i64 line, .int .i64 ok, .int .i64 oa, .int .i64 ob, .int .i64 oc, .int .u64 a, .int .u64 b, .int .u64 c, .int .u64 n, .int .u64 t, .int .u64 p, .int .i64 back, .int .i64 ret] 54)).free); (have kR0 := hR.cell); (have fR0 := hR.free); (have kX0 := hX.cell)))
  have hZ := (hR.setMu (.int .i64 line2) (.int .i64 ok2) (.int .i64 oa2) (.int .i64 ob2) (.int .i64 oc2) (.int .u64 a2) (.int .u64 b2) (.int .u64 c2) (.int .u64 n2) (.int .u64 t2) (.int .u64 p2) (.int .i64 back2) (.int .i64 ret2)).alloc (.cells #[.int .i64 line2, .int .i64 ok2, .int .i64 oa2, .int .i64 ob2, .int .i64 oc2, .int .u64 a2, .int .u64 b2, .int .u64 c2, .int .u64 n2, .int .u64 t2, .int .u64 p2, .int .i64 back2, .int .i64 ret2] 54)
  have kZ := hZ.cell
  refine bodyPost_ret (v := .tuple #[.agg #[.int .i64 line2, .int .i64 ok2, .int .i64 oa2, .int .i64 ob2, .int .i64 oc2, .int .u64 a2, .int .u64 b2, .int .u64 c2, .int .u64 n2, .int .u64 t2, .int .u64 p2, .int .i64 back2, .int .i64 ret2], .bool false, .bool false]) (by simp [results, Try.results150, go_sem, kZ]) rfl ⟨rfl, ?_, ?_⟩
  · repeat (first | with_reducible exact HH | with_reducible refine HAt.alloc ?_ _ | with_reducible refine HAt.other ?_ d1 d3 d2 _)
  · repeat (first | with_reducible exact hFF | with_reducible refine Fr.alloc ?_ _ | with_reducible refine Fr.setNew ?_ (Nat.le_succ _) _)

set_option maxRecDepth 100000 in
set_option maxHeartbeats 8000000 in
theorem lisp_p {w : World} {h ab db : Nat} {s : HS} (H : HAt w h ab db s) (mm : Int) (x : MutV) (hx : x.Wf) (ig : (gateM s.clear mm x).is = false) (it : (tkM s.clear x).is = false) (ip : (popM s.clear x).is = true) :
    Calls Try.prog 150 #[.pointer (some ⟨h, 0, none⟩), .int .i64 mm, x.val] w fun e w' => e = .returned (.tuple #[(popM s.clear x).x.val, .bool (popM s.clear x).lin, .bool false]) ∧ HAt w' h ab db ((popM s.clear x).s) ∧ Fr [h, db] w w' := by
  have HG := fun W (H : HAt W h ab db s.clear) => gate_any H mm x
  rw [gateM_no ig] at HG
  have HT := fun W (H : HAt W h ab db s.clear) => tk_any H x
  rw [tkM_no it] at HT
  have HP := fun W (H : HAt W h ab db s.clear) => pop_any H x hx
  rw [ip] at HP
  obtain ⟨y, hy⟩ : ∃ z, z = (popM s.clear x).x := ⟨_, rfl⟩
  obtain ⟨s2, hs2⟩ : ∃ z, z = (popM s.clear x).s := ⟨_, rfl⟩
  rw [← hy, ← hs2] at HP ⊢
  obtain ⟨ln2, hln2⟩ : ∃ z, z = (popM s.clear x).lin := ⟨_, rfl⟩
  rw [← hln2] at HP ⊢
  clear hln2
  clear hy hs2
  obtain ⟨line2, ok2, oa2, ob2, oc2, a2, b2, c2, n2, t2, p2, back2, ret2⟩ := y
  clear hx ig it ip
  have HCl := hid (fun W (H : HAt W h ab db s) => hclr_any H)
  obtain ⟨sc, hsc⟩ : ∃ z, z = s.clear := ⟨_, rfl⟩
  rw [← hsc] at HCl HG HT HP
  clear hsc
  obtain ⟨line, ok, oa, ob, oc, a, b, c, n, t, p, back, ret⟩ := x
  simp only [MutV.val] at HG HT HP ⊢
  replace HG := hid HG
  replace HT := hid HT
  replace HP := hid HP
  have q0 := H.blk.lt
  have q1 := H.ar.dat.lt
  have q2 := H.ar.hdr.lt
  have hX := (Blk.new w [.int .i64 line, .int .i64 ok, .int .i64 oa, .int .i64 ob, .int .i64 oc, .int .u64 a, .int .u64 b, .int .u64 c, .int .u64 n, .int .u64 t, .int .u64 p, .int .i64 back, .int .i64 ret] 54).alloc (.cells #[.int .i64 0, .int .i64 0, .int .i64 0, .int .i64 0, .int .i64 0, .int .u64 0, .int .u64 0, .int .u64 0, .int .u64 0, .int .u64 0, .int .u64 0, .int .i64 0, .int .i64 0] 54)
  have hR := Blk.new (w.alloc (.cells #[.int .i64 line, .int .i64 ok, .int .i64 oa, .int .i64 ob, .int .i64 oc, .int .u64 a, .int .u64 b, .int .u64 c, .int .u64 n, .int .u64 t, .int .u64 p, .int .i64 back, .int .i64 ret] 54)) zMut 54
  simp only [World.size_alloc] at hR
  have HH := (H.alloc (.cells #[.int .i64 line, .int .i64 ok, .int .i64 oa, .int .i64 ob, .int .i64 oc, .int .u64 a, .int .u64 b, .int .u64 c, .int .u64 n, .int .u64 t, .int .u64 p, .int .i64 back, .int .i64 ret] 54)).alloc (.cells #[.int .i64 0, .int .i64 0, .int .i64 0, .int .i64 0, .int .i64 0, .int .u64 0, .int .u64 0, .int .u64 0, .int .u64 0, .int .u64 0, .int .u64 0, .int .i64 0, .int .i64 0] 54)
  have hFF := ((Fr.refl [h, db] w).alloc (.cells #[.int .i64 line, .int .i64 ok, .int .i64 oa, .int .i64 ob, .int .i64 oc, .int .u64 a, .int .u64 b, .int .u64 c, .int .u64 n, .int .u64 t, .int .u64 p, .int .i64 back, .int .i64 ret] 54)).alloc (.cells #[.int .i64 0, .int .i64 0, .int .i64 0, .int .i64 0, .int .i64 0, .int .u64 0, .int .u64 0, .int .u64 0, .int .u64 0, .int .u64 0, .int .u64 0, .int .i64 0, .int .i64 0] 54)
  have nX : w.heap.size ∉ [h, db] := by simp; omega
  have nR : w.heap.size + 1 ∉ [h, db] := by simp; omega
  have d1 : h ≠ w.heap.size + 1 := by omega
  have d2 : db ≠ w.heap.size + 1 := by omega
  have d3 : ab ≠ w.heap.size + 1 := by omega
  clear H
  simp only [zMut] at hR
  have kX := hX.cell
  have kR := hR.cell
  have fR := hR.free
  go_enter Try.func150, Try.ntmps150
  go_wp2_with (first | (go_at_call 148; refine (HCl.out _ HH).mono ?_; rintro e w2 ⟨rfl, HH, hF2⟩; (replace hX := hX.kept hF2 nX); (replace hR := hR.kept hF2 nR); (replace hFF := hFF.trans hF2); (have lX := hX.lt); (have lR := hR.lt); (replace kX := hX.cell); (replace kR := hR.cell); (replace fR := hR.free)) | (go_at_call 186; refine (HP.out _ (HH.alloc _)).mono ?_; rintro e w4 ⟨rfl, HH, hF2⟩; (replace hX := (hX.alloc _).kept hF2 nX); (replace hR := (hR.alloc _).kept hF2 nR); (replace hFF := (hFF.alloc _).trans hF2); (replace lX := hX.lt); (replace lR := hR.lt); (have hY := Blk.new w4 [.int .i64 line2, .int .i64 ok2, .int .i64 oa2, .int .i64 ob2, .int .i64 oc2, .int .u64 a2, .int .u64 b2, .int .u64 c2, .int .u64 n2, .int .u64 t2, .int .u64 p2, .int .i64 back2, .int .i64 ret2] 54); (have kY := hY.cell); (replace kX := (hX.alloc (.cells #[.int .i64 line2, .int .i64 ok2, .int .i64 oa2, .int .i64 ob2, .int .i64 oc2, .int .u64 a2, .int .u64 b2, .int .u64 c2, .int .u64 n2, .int .u64 t2, .int .u64 p2, .int .i64 back2, .int .i64 ret2] 54)).cell); (replace kR := (hR.alloc (.cells #[.int .i64 line2, .int .i64 ok2, .int .i64 oa2, .int .i64 ob2, .int .i64 oc2, .int .u64 a2, .int .u64 b2, .int .u64 c2, .int .u64 n2, .int .u64 t2, .int .u64 p2, .int .i64 back2, .int .i64 ret2] 54)).cell); (replace fR := (hR.alloc (.cells #[.int .i64 line2, .int .i64 ok2, .int .i64 oa2, .int .i64 ob2, .int .i64 oc2, .int .u64 a2, .int .u64 b2, .int .u64 c2, .int .u64 n2, .int .u64 t2, .int .u64 p2, .int .i64 back2, .int .i64 ret2] 54)).free); (have kR0 := hR.cell); (have fR0 := hR.free); (have kX0 := hX.cell)) | (go_at_call 35; refine (HT.out _ (HH.alloc _)).mono ?_; rintro e w4 ⟨rfl, HH, hF2⟩; (replace hX := (hX.alloc _).kept hF2 nX); (replace hR := (hR.alloc _).kept hF2 nR); (replace hFF := (hFF.alloc _).trans hF2); (replace lX := hX.lt); (replace lR := hR.lt); (have hY := Blk.new w4 [.int .i64 line, .int .i64 ok, .int .i64 oa, .int .i64 ob, .int .i64 oc, .int .u64 a, .int .u64 b, .int .u64 c, .int .u64 n, .int .u64 t, .int .u64 p, .int .i64 back, .int .i64 ret] 54); (have kY := hY.cell); (replace kX := (hX.alloc (.cells #[.int .i64 line, .int .i64 ok, .int .i64 oa, .int .i64 ob, .int .i64 oc, .int .u64 a, .int .u64 b, .int .u64 c, .int .u64 n, .int .u64 t, .int .u64 p, .int .i64 back, .int .i64 ret] 54)).cell); (replace kR := (hR.alloc (.cells #[.int .i64 line, .int .i64 ok, .int .i64 oa, .int .i64 ob, .int .i64 oc, .int .u64 a, .int .u64 b, .int .u64 c, .int .u64 n, .int .u64 t, .int .u64 p, .int .i64 back, .int .i64 ret] 54)).cell); (replace fR := (hR.alloc (.cells #[.int .i64 line, .int .i64 ok, .int .i64 oa, .int .i64 ob, .int .i64 oc, .int .u64 a, .int .u64 b, .int .u64 c, .int .u64 n, .int .u64 t, .int .u64 p, .int .i64 back, .int .i64 ret] 54)).free); (have kR0 := hR.cell); (have fR0 := hR.free); (have kX0 := hX.cell)) | (go_at_call 41; refine (HG.out _ HH).mono ?_; rintro e w4 ⟨rfl, HH, hF2⟩; (replace hX := hX.kept hF2 nX); (replace hR := hR.kept hF2 nR); (replace hFF := hFF.trans hF2); (replace lX := hX.lt); (replace lR := hR.lt); (have hY := Blk.new w4 [.int .i64 line, .int .i64 ok, .int .i64 oa, .int .i64 ob, .int .i64 oc, .int .u64 a, .int .u64 b, .int .u64 c, .int .u64 n, .int .u64 t, .int .u64 p, .int .i64 back, .int .i64 ret] 54); (have kY := hY.cell); (replace kX := (hX.alloc (.cells #[.int .i64 line, .int .i64 ok, .int .i64 oa, .int .i64 ob, .int .i64 oc, .int .u64 a, .int .u64 b, .int .u64 c, .int .u64 n, .int .u64 t, .int .u64 p, .int .i64 back, .int .i64 ret] 54)).cell); (replace kR := (hR.alloc (.cells #[.int .i64 line, .int .i64 ok, .int .i64 oa, .int .i64 ob, .int .i64 oc, .int .u64 a, .int .u64 b, .int .u64 c, .int .u64 n, .int .u64 t, .int .u64 p, .int .i64 back, .int .i64 ret] 54)).cell); (replace fR := (hR.alloc (.cells #[.int .i64 line, .int .i64 ok, .int .i64 oa, .int .i64 ob, .int .i64 oc, .int .u64 a, .int .u64 b, .int .u64 c, .int .u64 n, .int .u64 t, .int .u64 p, .int .i64 back, .int .i64 ret] 54)).free); (have kR0 := hR.cell); (have fR0 := hR.free); (have kX0 := hX.cell)))
  have hZ := (hR.setMu (.int .i64 line2) (.int .i64 ok2) (.int .i64 oa2) (.int .i64 ob2) (.int .i64 oc2) (.int .u64 a2) (.int .u64 b2) (.int .u64 c2) (.int .u64 n2) (.int .u64 t2) (.int .u64 p2) (.int .i64 back2) (.int .i64 ret2)).alloc (.cells #[.int .i64 line2, .int .i64 ok2, .int .i64 oa2, .int .i64 ob2, .int .i64 oc2, .int .u64 a2, .int .u64 b2, .int .u64 c2, .int .u64 n2, .int .u64 t2, .int .u64 p2, .int .i64 back2, .int .i64 ret2] 54)
  have kZ := hZ.cell
  refine bodyPost_ret (v := .tuple #[.agg #[.int .i64 line2, .int .i64 ok2, .int .i64 oa2, .int .i64 ob2, .int .i64 oc2, .int .u64 a2, .int .u64 b2, .int .u64 c2, .int .u64 n2, .int .u64 t2, .int .u64 p2, .int .i64 back2, .int .i64 ret2], .bool ln2, .bool false]) (by simp [results, Try.results150, go_sem, kZ]) rfl ⟨rfl, ?_, ?_⟩
  · repeat (first | with_reducible exact HH | with_reducible refine HAt.alloc ?_ _ | with_reducible refine HAt.other ?_ d1 d3 d2 _)
  · repeat (first | with_reducible exact hFF | with_reducible refine Fr.alloc ?_ _ | with_reducible refine Fr.setNew ?_ (Nat.le_succ _) _)

set_option maxRecDepth 100000 in
set_option maxHeartbeats 8000000 in
theorem lisp_b {w : World} {h ab db : Nat} {s : HS} (H : HAt w h ab db s) (mm : Int) (x : MutV) (hx : x.Wf) (ig : (gateM s.clear mm x).is = false) (it : (tkM s.clear x).is = false) (ip : (popM s.clear x).is = false) (ib : (brM s.clear x).is = true) :
    Calls Try.prog 150 #[.pointer (some ⟨h, 0, none⟩), .int .i64 mm, x.val] w fun e w' => e = .returned (.tuple #[(brM s.clear x).x.val, .bool false, .bool ((brM s.clear x).x.line == 0)]) ∧ HAt w' h ab db ((brM s.clear x).s) ∧ Fr [h, db] w w' := by
  have HG := fun W (H : HAt W h ab db s.clear) => gate_any H mm x
  rw [gateM_no ig] at HG
  have HT := fun W (H : HAt W h ab db s.clear) => tk_any H x
  rw [tkM_no it] at HT
  have HP := fun W (H : HAt W h ab db s.clear) => pop_any H x hx
  rw [popM_no ip] at HP
  have HB := fun W (H : HAt W h ab db s.clear) => br_any H x hx
  rw [ib] at HB
  obtain ⟨y, hy⟩ : ∃ z, z = (brM s.clear x).x := ⟨_, rfl⟩
  obtain ⟨s2, hs2⟩ : ∃ z, z = (brM s.clear x).s := ⟨_, rfl⟩
  rw [← hy, ← hs2] at HB ⊢
  clear hy hs2
  obtain ⟨line2, ok2, oa2, ob2, oc2, a2, b2, c2, n2, t2, p2, back2, ret2⟩ := y
  clear hx ig it ip ib
  have HCl := hid (fun W (H : HAt W h ab db s) => hclr_any H)
  obtain ⟨sc, hsc⟩ : ∃ z, z = s.clear := ⟨_, rfl⟩
  rw [← hsc] at HCl HG HT HP HB
  clear hsc
  obtain ⟨line, ok, oa, ob, oc, a, b, c, n, t, p, back, ret⟩ := x
  simp only [MutV.val] at HG HT HP HB ⊢
  replace HG := hid HG
  replace HT := hid HT
  replace HP := hid HP
  replace HB := hid HB
  have q0 := H.blk.lt
  have q1 := H.ar.dat.lt
  have q2 := H.ar.hdr.lt
  have hX := (Blk.new w [.int .i64 line, .int .i64 ok, .int .i64 oa, .int .i64 ob, .int .i64 oc, .int .u64 a, .int .u64 b, .int .u64 c, .int .u64 n, .int .u64 t, .int .u64 p, .int .i64 back, .int .i64 ret] 54).alloc (.cells #[.int .i64 0, .int .i64 0, .int .i64 0, .int .i64 0, .int .i64 0, .int .u64 0, .int .u64 0, .int .u64 0, .int .u64 0, .int .u64 0, .int .u64 0, .int .i64 0, .int .i64 0] 54)
  have hR := Blk.new (w.alloc (.cells #[.int .i64 line, .int .i64 ok, .int .i64 oa, .int .i64 ob, .int .i64 oc, .int .u64 a, .int .u64 b, .int .u64 c, .int .u64 n, .int .u64 t, .int .u64 p, .int .i64 back, .int .i64 ret] 54)) zMut 54
  simp only [World.size_alloc] at hR
  have HH := (H.alloc (.cells #[.int .i64 line, .int .i64 ok, .int .i64 oa, .int .i64 ob, .int .i64 oc, .int .u64 a, .int .u64 b, .int .u64 c, .int .u64 n, .int .u64 t, .int .u64 p, .int .i64 back, .int .i64 ret] 54)).alloc (.cells #[.int .i64 0, .int .i64 0, .int .i64 0, .int .i64 0, .int .i64 0, .int .u64 0, .int .u64 0, .int .u64 0, .int .u64 0, .int .u64 0, .int .u64 0, .int .i64 0, .int .i64 0] 54)
  have hFF := ((Fr.refl [h, db] w).alloc (.cells #[.int .i64 line, .int .i64 ok, .int .i64 oa, .int .i64 ob, .int .i64 oc, .int .u64 a, .int .u64 b, .int .u64 c, .int .u64 n, .int .u64 t, .int .u64 p, .int .i64 back, .int .i64 ret] 54)).alloc (.cells #[.int .i64 0, .int .i64 0, .int .i64 0, .int .i64 0, .int .i64 0, .int .u64 0, .int .u64 0, .int .u64 0, .int .u64 0, .int .u64 0, .int .u64 0, .int .i64 0, .int .i64 0] 54)
  have nX : w.heap.size ∉ [h, db] := by simp; omega
  have nR : w.heap.size + 1 ∉ [h, db] := by simp; omega
  have d1 : h ≠ w.heap.size + 1 := by omega
  have d2 : db ≠ w.heap.size + 1 := by omega
  have d3 : ab ≠ w.heap.size + 1 := by omega
  clear H
  simp only [zMut] at hR
  have kX := hX.cell
  have kR := hR.cell
  have fR := hR.free
  go_enter Try.func150, Try.ntmps150
  go_wp2_with (first | (go_at_call 148; refine (HCl.out _ HH).mono ?_; rintro e w2 ⟨rfl, HH, hF2⟩; (replace hX := hX.kept hF2 nX); (replace hR := hR.kept hF2 nR); (replace hFF := hFF.trans hF2); (have lX := hX.lt); (have lR := hR.lt); (replace kX := hX.cell); (replace kR := hR.cell); (replace fR := hR.free)) | (go_at_call 187; refine (HB.out _ (HH.alloc _)).mono ?_; rintro e w4 ⟨rfl, HH, hF2⟩; (replace hX := (hX.alloc _).kept hF2 nX); (replace hR := (hR.alloc _).kept hF2 nR); (replace hFF := (hFF.alloc _).trans hF2); (replace lX := hX.lt); (replace lR := hR.lt); (have hY := Blk.new w4 [.int .i64 line2, .int .i64 ok2, .int .i64 oa2, .int .i64 ob2, .int .i64 oc2, .int .u64 a2, .int .u64 b2, .int .u64 c2, .int .u64 n2, .int .u64 t2, .int .u64 p2, .int .i64 back2, .int .i64 ret2] 54); (have kY := hY.cell); (replace kX := (hX.alloc (.cells #[.int .i64 line2, .int .i64 ok2, .int .i64 oa2, .int .i64 ob2, .int .i64 oc2, .int .u64 a2, .int .u64 b2, .int .u64 c2, .int .u64 n2, .int .u64 t2, .int .u64 p2, .int .i64 back2, .int .i64 ret2] 54)).cell); (replace kR := (hR.alloc (.cells #[.int .i64 line2, .int .i64 ok2, .int .i64 oa2, .int .i64 ob2, .int .i64 oc2, .int .u64 a2, .int .u64 b2, .int .u64 c2, .int .u64 n2, .int .u64 t2, .int .u64 p2, .int .i64 back2, .int .i64 ret2] 54)).cell); (replace fR := (hR.alloc (.cells #[.int .i64 line2, .int .i64 ok2, .int .i64 oa2, .int .i64 ob2, .int .i64 oc2, .int .u64 a2, .int .u64 b2, .int .u64 c2, .int .u64 n2, .int .u64 t2, .int .u64 p2, .int .i64 back2, .int .i64 ret2] 54)).free); (have kR0 := hR.cell); (have fR0 := hR.free); (have kX0 := hX.cell)) | (go_at_call 186; refine (HP.out _ (HH.alloc _)).mono ?_; rintro e w4 ⟨rfl, HH, hF2⟩; (replace hX := (hX.alloc _).kept hF2 nX); (replace hR := (hR.alloc _).kept hF2 nR); (replace hFF := (hFF.alloc _).trans hF2); (replace lX := hX.lt); (replace lR := hR.lt); (have hY := Blk.new w4 [.int .i64 line, .int .i64 ok, .int .i64 oa, .int .i64 ob, .int .i64 oc, .int .u64 a, .int .u64 b, .int .u64 c, .int .u64 n, .int .u64 t, .int .u64 p, .int .i64 back, .int .i64 ret] 54); (have kY := hY.cell); (replace kX := (hX.alloc (.cells #[.int .i64 line, .int .i64 ok, .int .i64 oa, .int .i64 ob, .int .i64 oc, .int .u64 a, .int .u64 b, .int .u64 c, .int .u64 n, .int .u64 t, .int .u64 p, .int .i64 back, .int .i64 ret] 54)).cell); (replace kR := (hR.alloc (.cells #[.int .i64 line, .int .i64 ok, .int .i64 oa, .int .i64 ob, .int .i64 oc, .int .u64 a, .int .u64 b, .int .u64 c, .int .u64 n, .int .u64 t, .int .u64 p, .int .i64 back, .int .i64 ret] 54)).cell); (replace fR := (hR.alloc (.cells #[.int .i64 line, .int .i64 ok, .int .i64 oa, .int .i64 ob, .int .i64 oc, .int .u64 a, .int .u64 b, .int .u64 c, .int .u64 n, .int .u64 t, .int .u64 p, .int .i64 back, .int .i64 ret] 54)).free); (have kR0 := hR.cell); (have fR0 := hR.free); (have kX0 := hX.cell)) | (go_at_call 35; refine (HT.out _ (HH.alloc _)).mono ?_; rintro e w4 ⟨rfl, HH, hF2⟩; (replace hX := (hX.alloc _).kept hF2 nX); (replace hR := (hR.alloc _).kept hF2 nR); (replace hFF := (hFF.alloc _).trans hF2); (replace lX := hX.lt); (replace lR := hR.lt); (have hY := Blk.new w4 [.int .i64 line, .int .i64 ok, .int .i64 oa, .int .i64 ob, .int .i64 oc, .int .u64 a, .int .u64 b, .int .u64 c, .int .u64 n, .int .u64 t, .int .u64 p, .int .i64 back, .int .i64 ret] 54); (have kY := hY.cell); (replace kX := (hX.alloc (.cells #[.int .i64 line, .int .i64 ok, .int .i64 oa, .int .i64 ob, .int .i64 oc, .int .u64 a, .int .u64 b, .int .u64 c, .int .u64 n, .int .u64 t, .int .u64 p, .int .i64 back, .int .i64 ret] 54)).cell); (replace kR := (hR.alloc (.cells #[.int .i64 line, .int .i64 ok, .int .i64 oa, .int .i64 ob, .int .i64 oc, .int .u64 a, .int .u64 b, .int .u64 c, .int .u64 n, .int .u64 t, .int .u64 p, .int .i64 back, .int .i64 ret] 54)).cell); (replace fR := (hR.alloc (.cells #[.int .i64 line, .int .i64 ok, .int .i64 oa, .int .i64 ob, .int .i64 oc, .int .u64 a, .int .u64 b, .int .u64 c, .int .u64 n, .int .u64 t, .int .u64 p, .int .i64 back, .int .i64 ret] 54)).free); (have kR0 := hR.cell); (have fR0 := hR.free); (have kX0 := hX.cell)) | (go_at_call 41; refine (HG.out _ HH).mono ?_; rintro e w4 ⟨rfl, HH, hF2⟩; (replace hX := hX.kept hF2 nX); (replace hR := hR.kept hF2 nR); (replace hFF := hFF.trans hF2); (replace lX := hX.lt); (replace lR := hR.lt); (have hY := Blk.new w4 [.int .i64 line, .int .i64 ok, .int .i64 oa, .int .i64 ob, .int .i64 oc, .int .u64 a, .int .u64 b, .int .u64 c, .int .u64 n, .int .u64 t, .int .u64 p, .int .i64 back, .int .i64 ret] 54); (have kY := hY.cell); (replace kX := (hX.alloc (.cells #[.int .i64 line, .int .i64 ok, .int .i64 oa, .int .i64 ob, .int .i64 oc, .int .u64 a, .int .u64 b, .int .u64 c, .int .u64 n, .int .u64 t, .int .u64 p, .int .i64 back, .int .i64 ret] 54)).cell); (replace kR := (hR.alloc (.cells #[.int .i64 line, .int .i64 ok, .int .i64 oa, .int .i64 ob, .int .i64 oc, .int .u64 a, .int .u64 b, .int .u64 c, .int .u64 n, .int .u64 t, .int .u64 p, .int .i64 back, .int .i64 ret] 54)).cell); (replace fR := (hR.alloc (.cells #[.int .i64 line, .int .i64 ok, .int .i64 oa, .int .i64 ob, .int .i64 oc, .int .u64 a, .int .u64 b, .int .u64 c, .int .u64 n, .int .u64 t, .int .u64 p, .int .i64 back, .int .i64 ret] 54)).free); (have kR0 := hR.cell); (have fR0 := hR.free); (have kX0 := hX.cell)))
  obtain ⟨W9, yb, hW9, hyb, B⟩ : ∃ W9 yb, W9 = w4.alloc (.cells #[.int .i64 line2, .int .i64 ok2, .int .i64 oa2, .int .i64 ob2, .int .i64 oc2, .int .u64 a2, .int .u64 b2, .int .u64 c2, .int .u64 n2, .int .u64 t2, .int .u64 p2, .int .i64 back2, .int .i64 ret2] 54) ∧ yb = w4.heap.size ∧ SB w h ab db yb _ zMut 54 [.int .i64 line2, .int .i64 ok2, .int .i64 oa2, .int .i64 ob2, .int .i64 oc2, .int .u64 a2, .int .u64 b2, .int .u64 c2, .int .u64 n2, .int .u64 t2, .int .u64 p2, .int .i64 back2, .int .i64 ret2] W9 := ⟨_, _, rfl, rfl, HH.alloc _, hR.alloc _, hY, hFF.alloc _, q0, q2, q1, by omega⟩
  rw [← hW9, ← hyb]
  clear hW9 hyb hX hR hFF HH hY kX kR fR kY kR0 fR0 kX0
  replace B := B.drew
  refine wp_region_held_drew (S := (fun (W : World) => W.cell? ⟨yb, 0, none⟩ = some (.int .i64 line2) ∧ W.cell? ⟨yb, 1, none⟩ = some (.int .i64 ok2) ∧ W.cell? ⟨yb, 2, none⟩ = some (.int .i64 oa2) ∧ W.cell? ⟨yb, 3, none⟩ = some (.int .i64 ob2) ∧ W.cell? ⟨yb, 4, none⟩ = some (.int .i64 oc2) ∧ W.cell? ⟨yb, 5, none⟩ = some (.int .u64 a2) ∧ W.cell? ⟨yb, 6, none⟩ = some (.int .u64 b2) ∧ W.cell? ⟨yb, 7, none⟩ = some (.int .u64 c2) ∧ W.cell? ⟨yb, 8, none⟩ = some (.int .u64 n2) ∧ W.cell? ⟨yb, 9, none⟩ = some (.int .u64 t2) ∧ W.cell? ⟨yb, 10, none⟩ = some (.int .u64 p2) ∧ W.cell? ⟨yb, 11, none⟩ = some (.int .i64 back2) ∧ W.cell? ⟨yb, 12, none⟩ = some (.int .i64 ret2))) (by kernel_rfl) (by exact ⟨B.y.cell 0, B.y.cell 1, B.y.cell 2, B.y.cell 3, B.y.cell 4, B.y.cell 5, B.y.cell 6, B.y.cell 7, B.y.cell 8, B.y.cell 9, B.y.cell 10, B.y.cell 11, B.y.cell 12⟩) (fun hHeld => ?_)
  obtain ⟨W8, hW8, B8⟩ : ∃ W8, W8 = W9.drew ∧ SB w h ab db _ _ _ _ _ W8 := ⟨_, rfl, B⟩
  rw [← hW8] at hHeld ⊢
  clear B hW8
  have B := B8
  clear B8
  refine wpAnyH_take (i := 0) (v := ?_) rfl (by kernel_rfl) (by kernel_rfl) (by kernel_rfl) (fun _ _ _ h => h) (Or.inl ⟨by rfl, ?_⟩) (by assumption) ?_
  rotate_left
  · intro w hSw; (try dsimp only at hSw); go_simp; first | done | with_reducible rfl
  try simp only [Act.put, List.getElem_toArray, List.getElem_cons_succ, List.getElem_cons_zero, List.setIfInBounds_toArray, List.set_cons_zero, List.set_cons_succ]
  refine wpAnyH_take (i := 1) (v := ?_) rfl (by kernel_rfl) (by kernel_rfl) (by kernel_rfl) (fun _ _ _ h => h) (Or.inl ⟨by rfl, ?_⟩) (by assumption) ?_
  rotate_left
  · intro w hSw; (try dsimp only at hSw); go_simp; first | done | with_reducible rfl
  try simp only [Act.put, List.getElem_toArray, List.getElem_cons_succ, List.getElem_cons_zero, List.setIfInBounds_toArray, List.set_cons_zero, List.set_cons_succ]
  refine wpAnyH_take (i := 2) (v := ?_) rfl (by kernel_rfl) (by kernel_rfl) (by kernel_rfl) (fun _ _ _ h => h) (Or.inl ⟨by rfl, ?_⟩) (by assumption) ?_
  rotate_left
  · intro w hSw; (try dsimp only at hSw); go_simp; first | done | with_reducible rfl
  try simp only [Act.put, List.getElem_toArray, List.getElem_cons_succ, List.getElem_cons_zero, List.setIfInBounds_toArray, List.set_cons_zero, List.set_cons_succ]
  refine wpAnyH_take (i := 3) (v := ?_) rfl (by kernel_rfl) (by kernel_rfl) (by kernel_rfl) (fun _ _ _ h => h) (Or.inl ⟨by rfl, ?_⟩) (by assumption) ?_
  rotate_left
  · intro w hSw; (try dsimp only at hSw); go_simp; first | done | with_reducible rfl
  try simp only [Act.put, List.getElem_toArray, List.getElem_cons_succ, List.getElem_cons_zero, List.setIfInBounds_toArray, List.set_cons_zero, List.set_cons_succ]
  refine wpAnyH_ready (rs := [4]) (by kernel_rfl) (by simp) ?_
  refine AllReadyH.cons rfl (fun K hK => ?_) AllReadyH.nil
  have kR := B.r.cell
  have fR := B.r.free
  go_simp
  replace B := B.ret (.int .i64 line2) (.int .i64 ok2) (.int .i64 oa2) (.int .i64 ob2) (.int .i64 oc2) (.int .u64 a2) (.int .u64 b2) (.int .u64 c2) (.int .u64 n2) (.int .u64 t2) (.int .u64 p2) (.int .i64 back2) (.int .i64 ret2)
  refine hK.out _ _ (by exact ⟨B.y.cell 0, B.y.cell 1, B.y.cell 2, B.y.cell 3, B.y.cell 4, B.y.cell 5, B.y.cell 6, B.y.cell 7, B.y.cell 8, B.y.cell 9, B.y.cell 10, B.y.cell 11, B.y.cell 12⟩) (fun hHeld => ?_)
  clear hK K
  try simp only [Act.put, List.getElem_toArray, List.getElem_cons_succ, List.getElem_cons_zero, List.setIfInBounds_toArray, List.set_cons_zero, List.set_cons_succ]
  refine wpAnyH_take (i := 5) (v := ?_) rfl (by kernel_rfl) (by kernel_rfl) (by kernel_rfl) (fun _ _ _ h => h) (Or.inl ⟨by rfl, ?_⟩) (by assumption) ?_
  rotate_left
  · intro w hSw; (try dsimp only at hSw); go_simp; first | done | with_reducible rfl
  try simp only [Act.put, List.getElem_toArray, List.getElem_cons_succ, List.getElem_cons_zero, List.setIfInBounds_toArray, List.set_cons_zero, List.set_cons_succ]
  refine wpAnyH_take (i := 6) (v := ?_) rfl (by kernel_rfl) (by kernel_rfl) (by kernel_rfl) (fun _ _ _ h => h) (Or.inl ⟨by rfl, ?_⟩) (by assumption) ?_
  rotate_left
  · intro w hSw; (try dsimp only at hSw); go_simp; first | done | with_reducible rfl
  try simp only [Act.put, List.getElem_toArray, List.getElem_cons_succ, List.getElem_cons_zero, List.setIfInBounds_toArray, List.set_cons_zero, List.set_cons_succ]
  refine wpAnyH_done (by kernel_rfl) ?_ _
  clear hHeld
  obtain ⟨W9, hW9, B9⟩ : ∃ W9, W9 = _ ∧ SB w h ab db _ _ _ _ _ W9 := ⟨_, rfl, B⟩
  rw [← hW9]
  clear B hW9
  have B := B9
  clear B9
  have kR := B.r.cell
  go_wp2_with fail
  refine bodyPost_ret (v := .tuple #[.agg #[.int .i64 line2, .int .i64 ok2, .int .i64 oa2, .int .i64 ob2, .int .i64 oc2, .int .u64 a2, .int .u64 b2, .int .u64 c2, .int .u64 n2, .int .u64 t2, .int .u64 p2, .int .i64 back2, .int .i64 ret2], .bool false, .bool (line2 == 0)]) (by simp [results, Try.results150, go_sem, kR]) rfl ⟨rfl, ?_, ?_⟩
  · exact B.H
  · exact B.f

abbrev runCs (h : Nat) (mm : Int) (x : MutV) (lin : Bool) : List Value := [.pointer (some ⟨h, 0, none⟩), .int .i64 mm, .int .i64 x.line, .int .i64 x.ok, .int .i64 x.oa, .int .i64 x.ob, .int .i64 x.oc, .int .u64 x.a, .int .u64 x.b, .int .u64 x.c, .int .u64 x.n, .int .u64 x.t, .int .u64 x.p, .int .i64 x.back, .int .i64 x.ret, .bool lin]
set_option maxRecDepth 100000 in
set_option maxHeartbeats 8000000 in
theorem lisp_o {w : World} {h ab db : Nat} {s : HS} (H : HAt w h ab db s) (mm : Int) (x : MutV) (hx : x.Wf) (ig : (gateM s.clear mm x).is = false) (it : (tkM s.clear x).is = false) (ip : (popM s.clear x).is = false) (ib : (brM s.clear x).is = false) {fnk : Nat} (hk : mget linesL x.line = some (.func (.func fnk) #[] #[])) (hcf : ∀ (args : Array Value) (W : World), (callFunc fnk args).run Try.prog W = .ok (.enter fnk args) W) (y : MutV) (lin2 : Bool) (s2 : HS) (HK : ∀ W rb, HAt W h ab db s.clear → Blk W rb 251 (runCs h mm x false) → h ≠ rb → ab ≠ rb → db ≠ rb → Calls Try.prog fnk #[.pointer (some ⟨rb, 0, none⟩)] W fun e w' => e = .returned (.tuple #[]) ∧ (HAt w' h ab db s2 ∧ Blk w' rb 251 (runCs h mm y lin2) ∧ Fr [h, db, rb] W w')) :
    Calls Try.prog 150 #[.pointer (some ⟨h, 0, none⟩), .int .i64 mm, x.val] w fun e w' => e = .returned (.tuple #[y.val, .bool lin2, .bool false]) ∧ HAt w' h ab db (s2) ∧ Fr [h, db] w w' := by
  have hnf : ∀ (w : World), (Go.binOp BinOp.eql 246 (.func (.func fnk) #[] #[]) .nilFunc).run Try.prog w = .ok (.bool false) w := fun _ => by kernel_rfl
  have HG := fun W (H : HAt W h ab db s.clear) => gate_any H mm x
  rw [gateM_no ig] at HG
  have HT := fun W (H : HAt W h ab db s.clear) => tk_any H x
  rw [tkM_no it] at HT
  have HP := fun W (H : HAt W h ab db s.clear) => pop_any H x hx
  rw [popM_no ip] at HP
  have HB := fun W (H : HAt W h ab db s.clear) => br_any H x hx
  rw [brM_no ib] at HB
  clear hx ig it ip ib
  have HLk := fun (W : World) (r : Nat) (hM : MapAt W r linesL) => run_look (P := Try.prog) Try.underlying247 Try.underlying3 hM x.line Value.nilFunc (by kernel_rfl)
  rw [hk] at HLk
  simp only [Option.getD_some] at HLk
  clear hk
  have HCl := hid (fun W (H : HAt W h ab db s) => hclr_any H)
  obtain ⟨sc, hsc⟩ : ∃ z, z = s.clear := ⟨_, rfl⟩
  rw [← hsc] at HCl HG HT HP HB HK
  clear hsc
  obtain ⟨line, ok, oa, ob, oc, a, b, c, n, t, p, back, ret⟩ := x
  simp only [MutV.val] at HG HT HP HB ⊢
  replace HG := hid HG
  replace HT := hid HT
  replace HP := hid HP
  replace HB := hid HB
  replace HLk := hid HLk
  obtain ⟨line2, ok2, oa2, ob2, oc2, a2, b2, c2, n2, t2, p2, back2, ret2⟩ := y
  simp only [runCs] at HK
  replace HK := hid HK
  have q0 := H.blk.lt
  have q1 := H.ar.dat.lt
  have q2 := H.ar.hdr.lt
  have hX := (Blk.new w [.int .i64 line, .int .i64 ok, .int .i64 oa, .int .i64 ob, .int .i64 oc, .int .u64 a, .int .u64 b, .int .u64 c, .int .u64 n, .int .u64 t, .int .u64 p, .int .i64 back, .int .i64 ret] 54).alloc (.cells #[.int .i64 0, .int .i64 0, .int .i64 0, .int .i64 0, .int .i64 0, .int .u64 0, .int .u64 0, .int .u64 0, .int .u64 0, .int .u64 0, .int .u64 0, .int .i64 0, .int .i64 0] 54)
  have hR := Blk.new (w.alloc (.cells #[.int .i64 line, .int .i64 ok, .int .i64 oa, .int .i64 ob, .int .i64 oc, .int .u64 a, .int .u64 b, .int .u64 c, .int .u64 n, .int .u64 t, .int .u64 p, .int .i64 back, .int .i64 ret] 54)) zMut 54
  simp only [World.size_alloc] at hR
  have HH := (H.alloc (.cells #[.int .i64 line, .int .i64 ok, .int .i64 oa, .int .i64 ob, .int .i64 oc, .int .u64 a, .int .u64 b, .int .u64 c, .int .u64 n, .int .u64 t, .int .u64 p, .int .i64 back, .int .i64 ret] 54)).alloc (.cells #[.int .i64 0, .int .i64 0, .int .i64 0, .int .i64 0, .int .i64 0, .int .u64 0, .int .u64 0, .int .u64 0, .int .u64 0, .int .u64 0, .int .u64 0, .int .i64 0, .int .i64 0] 54)
  have hFF := ((Fr.refl [h, db] w).alloc (.cells #[.int .i64 line, .int .i64 ok, .int .i64 oa, .int .i64 ob, .int .i64 oc, .int .u64 a, .int .u64 b, .int .u64 c, .int .u64 n, .int .u64 t, .int .u64 p, .int .i64 back, .int .i64 ret] 54)).alloc (.cells #[.int .i64 0, .int .i64 0, .int .i64 0, .int .i64 0, .int .i64 0, .int .u64 0, .int .u64 0, .int .u64 0, .int .u64 0, .int .u64 0, .int .u64 0, .int .i64 0, .int .i64 0] 54)
  have nX : w.heap.size ∉ [h, db] := by simp; omega
  have nR : w.heap.size + 1 ∉ [h, db] := by simp; omega
  have d1 : h ≠ w.heap.size + 1 := by omega
  have d2 : db ≠ w.heap.size + 1 := by omega
  have d3 : ab ≠ w.heap.size + 1 := by omega
  clear H
  simp only [zMut] at hR
  have kX := hX.cell
  have kR := hR.cell
  have fR := hR.free
  go_enter Try.func150, Try.ntmps150
  go_wp2_with (first | (go_at_call 148; refine (HCl.out _ HH).mono ?_; rintro e w2 ⟨rfl, HH, hF2⟩; (replace hX := hX.kept hF2 nX); (replace hR := hR.kept hF2 nR); (replace hFF := hFF.trans hF2); (have lX := hX.lt); (have lR := hR.lt); (replace kX := hX.cell); (replace kR := hR.cell); (replace fR := hR.free)) | (go_at_call 187; refine (HB.out _ (HH.alloc _)).mono ?_; rintro e w4 ⟨rfl, HH, hF2⟩; (replace hX := (hX.alloc _).kept hF2 nX); (replace hR := (hR.alloc _).kept hF2 nR); (replace hFF := (hFF.alloc _).trans hF2); (replace lX := hX.lt); (replace lR := hR.lt); (have hY := Blk.new w4 [.int .i64 line, .int .i64 ok, .int .i64 oa, .int .i64 ob, .int .i64 oc, .int .u64 a, .int .u64 b, .int .u64 c, .int .u64 n, .int .u64 t, .int .u64 p, .int .i64 back, .int .i64 ret] 54); (have kY := hY.cell); (replace kX := (hX.alloc (.cells #[.int .i64 line, .int .i64 ok, .int .i64 oa, .int .i64 ob, .int .i64 oc, .int .u64 a, .int .u64 b, .int .u64 c, .int .u64 n, .int .u64 t, .int .u64 p, .int .i64 back, .int .i64 ret] 54)).cell); (replace kR := (hR.alloc (.cells #[.int .i64 line, .int .i64 ok, .int .i64 oa, .int .i64 ob, .int .i64 oc, .int .u64 a, .int .u64 b, .int .u64 c, .int .u64 n, .int .u64 t, .int .u64 p, .int .i64 back, .int .i64 ret] 54)).cell); (replace fR := (hR.alloc (.cells #[.int .i64 line, .int .i64 ok, .int .i64 oa, .int .i64 ob, .int .i64 oc, .int .u64 a, .int .u64 b, .int .u64 c, .int .u64 n, .int .u64 t, .int .u64 p, .int .i64 back, .int .i64 ret] 54)).free); (have kR0 := hR.cell); (have fR0 := hR.free); (have kX0 := hX.cell)) | (go_at_call 186; refine (HP.out _ (HH.alloc _)).mono ?_; rintro e w4 ⟨rfl, HH, hF2⟩; (replace hX := (hX.alloc _).kept hF2 nX); (replace hR := (hR.alloc _).kept hF2 nR); (replace hFF := (hFF.alloc _).trans hF2); (replace lX := hX.lt); (replace lR := hR.lt); (have hY := Blk.new w4 [.int .i64 line, .int .i64 ok, .int .i64 oa, .int .i64 ob, .int .i64 oc, .int .u64 a, .int .u64 b, .int .u64 c, .int .u64 n, .int .u64 t, .int .u64 p, .int .i64 back, .int .i64 ret] 54); (have kY := hY.cell); (replace kX := (hX.alloc (.cells #[.int .i64 line, .int .i64 ok, .int .i64 oa, .int .i64 ob, .int .i64 oc, .int .u64 a, .int .u64 b, .int .u64 c, .int .u64 n, .int .u64 t, .int .u64 p, .int .i64 back, .int .i64 ret] 54)).cell); (replace kR := (hR.alloc (.cells #[.int .i64 line, .int .i64 ok, .int .i64 oa, .int .i64 ob, .int .i64 oc, .int .u64 a, .int .u64 b, .int .u64 c, .int .u64 n, .int .u64 t, .int .u64 p, .int .i64 back, .int .i64 ret] 54)).cell); (replace fR := (hR.alloc (.cells #[.int .i64 line, .int .i64 ok, .int .i64 oa, .int .i64 ob, .int .i64 oc, .int .u64 a, .int .u64 b, .int .u64 c, .int .u64 n, .int .u64 t, .int .u64 p, .int .i64 back, .int .i64 ret] 54)).free); (have kR0 := hR.cell); (have fR0 := hR.free); (have kX0 := hX.cell)) | (go_at_call 35; refine (HT.out _ (HH.alloc _)).mono ?_; rintro e w4 ⟨rfl, HH, hF2⟩; (replace hX := (hX.alloc _).kept hF2 nX); (replace hR := (hR.alloc _).kept hF2 nR); (replace hFF := (hFF.alloc _).trans hF2); (replace lX := hX.lt); (replace lR := hR.lt); (have hY := Blk.new w4 [.int .i64 line, .int .i64 ok, .int .i64 oa, .int .i64 ob, .int .i64 oc, .int .u64 a, .int .u64 b, .int .u64 c, .int .u64 n, .int .u64 t, .int .u64 p, .int .i64 back, .int .i64 ret] 54); (have kY := hY.cell); (replace kX := (hX.alloc (.cells #[.int .i64 line, .int .i64 ok, .int .i64 oa, .int .i64 ob, .int .i64 oc, .int .u64 a, .int .u64 b, .int .u64 c, .int .u64 n, .int .u64 t, .int .u64 p, .int .i64 back, .int .i64 ret] 54)).cell); (replace kR := (hR.alloc (.cells #[.int .i64 line, .int .i64 ok, .int .i64 oa, .int .i64 ob, .int .i64 oc, .int .u64 a, .int .u64 b, .int .u64 c, .int .u64 n, .int .u64 t, .int .u64 p, .int .i64 back, .int .i64 ret] 54)).cell); (replace fR := (hR.alloc (.cells #[.int .i64 line, .int .i64 ok, .int .i64 oa, .int .i64 ob, .int .i64 oc, .int .u64 a, .int .u64 b, .int .u64 c, .int .u64 n, .int .u64 t, .int .u64 p, .int .i64 back, .int .i64 ret] 54)).free); (have kR0 := hR.cell); (have fR0 := hR.free); (have kX0 := hX.cell)) | (go_at_call 41; refine (HG.out _ HH).mono ?_; rintro e w4 ⟨rfl, HH, hF2⟩; (replace hX := hX.kept hF2 nX); (replace hR := hR.kept hF2 nR); (replace hFF := hFF.trans hF2); (replace lX := hX.lt); (replace lR := hR.lt); (have hY := Blk.new w4 [.int .i64 line, .int .i64 ok, .int .i64 oa, .int .i64 ob, .int .i64 oc, .int .u64 a, .int .u64 b, .int .u64 c, .int .u64 n, .int .u64 t, .int .u64 p, .int .i64 back, .int .i64 ret] 54); (have kY := hY.cell); (replace kX := (hX.alloc (.cells #[.int .i64 line, .int .i64 ok, .int .i64 oa, .int .i64 ob, .int .i64 oc, .int .u64 a, .int .u64 b, .int .u64 c, .int .u64 n, .int .u64 t, .int .u64 p, .int .i64 back, .int .i64 ret] 54)).cell); (replace kR := (hR.alloc (.cells #[.int .i64 line, .int .i64 ok, .int .i64 oa, .int .i64 ob, .int .i64 oc, .int .u64 a, .int .u64 b, .int .u64 c, .int .u64 n, .int .u64 t, .int .u64 p, .int .i64 back, .int .i64 ret] 54)).cell); (replace fR := (hR.alloc (.cells #[.int .i64 line, .int .i64 ok, .int .i64 oa, .int .i64 ob, .int .i64 oc, .int .u64 a, .int .u64 b, .int .u64 c, .int .u64 n, .int .u64 t, .int .u64 p, .int .i64 back, .int .i64 ret] 54)).free); (have kR0 := hR.cell); (have fR0 := hR.free); (have kX0 := hX.cell)))
  obtain ⟨W9, hW9, HH, hX, hR, hFF⟩ : ∃ W9, W9 = w4.alloc (.cells #[.int .i64 line, .int .i64 ok, .int .i64 oa, .int .i64 ob, .int .i64 oc, .int .u64 a, .int .u64 b, .int .u64 c, .int .u64 n, .int .u64 t, .int .u64 p, .int .i64 back, .int .i64 ret] 54) ∧ HAt W9 h ab db sc ∧ Blk W9 w.heap.size 54 [.int .i64 line, .int .i64 ok, .int .i64 oa, .int .i64 ob, .int .i64 oc, .int .u64 a, .int .u64 b, .int .u64 c, .int .u64 n, .int .u64 t, .int .u64 p, .int .i64 back, .int .i64 ret] ∧ Blk W9 (w.heap.size + 1) 54 [.int .i64 0, .int .i64 0, .int .i64 0, .int .i64 0, .int .i64 0, .int .u64 0, .int .u64 0, .int .u64 0, .int .u64 0, .int .u64 0, .int .u64 0, .int .i64 0, .int .i64 0] ∧ Fr [h, db] w W9 := ⟨_, rfl, HH.alloc _, hX.alloc _, hR.alloc _, hFF.alloc _⟩
  rw [← hW9]
  clear hW9 hY kX kR fR kY kR0 fR0 kX0 lX lR
  have kX := hX.cell
  refine wp_region_held_drew (S := (fun (W : World) => W.cell? ⟨w.heap.size, 0, none⟩ = some (.int .i64 line))) (by kernel_rfl) (by exact hX.drew.cell 0) (fun hHeld => ?_)
  obtain ⟨W8, hW8, HH, hX, hR, hFF⟩ : ∃ W8, W8 = W9.drew ∧ HAt W8 h ab db sc ∧ Blk W8 w.heap.size 54 [.int .i64 line, .int .i64 ok, .int .i64 oa, .int .i64 ob, .int .i64 oc, .int .u64 a, .int .u64 b, .int .u64 c, .int .u64 n, .int .u64 t, .int .u64 p, .int .i64 back, .int .i64 ret] ∧ Blk W8 (w.heap.size + 1) 54 [.int .i64 0, .int .i64 0, .int .i64 0, .int .i64 0, .int .i64 0, .int .u64 0, .int .u64 0, .int .u64 0, .int .u64 0, .int .u64 0, .int .u64 0, .int .i64 0, .int .i64 0] ∧ Fr [h, db] w W8 := ⟨_, rfl, HH.drew, hX.drew, hR.drew, hFF.drew⟩
  rw [← hW8] at hHeld ⊢
  clear hW8
  refine wpAnyH_take (i := 1) (v := ?_) rfl (by kernel_rfl) (by kernel_rfl) (by kernel_rfl) (fun _ _ _ h => h) (Or.inl ⟨by rfl, ?_⟩) (by assumption) ?_
  rotate_left
  · intro w hSw; (try dsimp only at hSw); go_simp; first | done | with_reducible rfl
  try simp only [Act.put, List.getElem_toArray, List.getElem_cons_succ, List.getElem_cons_zero, List.setIfInBounds_toArray, List.set_cons_zero, List.set_cons_succ]
  refine wpAnyH_take (i := 2) (v := ?_) rfl (by kernel_rfl) (by kernel_rfl) (by kernel_rfl) (fun _ _ _ h => h) (Or.inl ⟨by rfl, ?_⟩) (by assumption) ?_
  rotate_left
  · intro w hSw; (try dsimp only at hSw); go_simp; first | done | with_reducible rfl
  try simp only [Act.put, List.getElem_toArray, List.getElem_cons_succ, List.getElem_cons_zero, List.setIfInBounds_toArray, List.set_cons_zero, List.set_cons_succ]
  refine wpAnyH_ready (rs := [0]) (by kernel_rfl) (by simp) ?_
  refine AllReadyH.cons rfl (fun K hK => ?_) AllReadyH.nil
  go_simp
  go_at_call 188
  refine (lines_any _).mono ?_
  rintro e w5 ⟨⟨r, rfl, hM, _⟩, hF2⟩
  replace HH := HH.kept0 hF2
  replace hX := hX.kept hF2 List.not_mem_nil
  replace hR := hR.kept hF2 List.not_mem_nil
  replace hFF := hFF.trans (hF2.mono (by simp))
  have hl := HLk.out _ _ hM
  go_wp2_with fail
  refine hK.out _ _ (by exact hX.cell 0) (fun hHeld => ?_)
  clear hK K
  try simp only [Act.put, List.getElem_toArray, List.getElem_cons_succ, List.getElem_cons_zero, List.setIfInBounds_toArray, List.set_cons_zero, List.set_cons_succ]
  refine wpAnyH_ready (rs := [3]) (by kernel_rfl) (by simp) ?_
  refine AllReadyH.cons rfl (fun K hK => ?_) AllReadyH.nil
  go_simp
  refine hK.out _ _ (by exact hX.cell 0) (fun hHeld => ?_)
  clear hK K
  try simp only [Act.put, List.getElem_toArray, List.getElem_cons_succ, List.getElem_cons_zero, List.setIfInBounds_toArray, List.set_cons_zero, List.set_cons_succ]
  refine wpAnyH_take (i := 4) (v := ?_) rfl (by kernel_rfl) (by kernel_rfl) (by kernel_rfl) (fun _ _ _ h => h) (Or.inl ⟨by rfl, ?_⟩) (by assumption) ?_
  rotate_left
  · intro w hSw; (try dsimp only at hSw); go_simp; first | done | with_reducible rfl
  try simp only [Act.put, List.getElem_toArray, List.getElem_cons_succ, List.getElem_cons_zero, List.setIfInBounds_toArray, List.set_cons_zero, List.set_cons_succ]
  refine wpAnyH_done (by kernel_rfl) ?_ _
  clear hHeld
  have kX := hX.cell
  have kR := hR.cell
  have fR := hR.free
  have rX := Blk.new w5 [.pointer (some ⟨h, 0, none⟩), .int .i64 mm, .int .i64 line, .int .i64 ok, .int .i64 oa, .int .i64 ob, .int .i64 oc, .int .u64 a, .int .u64 b, .int .u64 c, .int .u64 n, .int .u64 t, .int .u64 p, .int .i64 back, .int .i64 ret, .bool false] 251
  have l5 := hR.lt
  have HHa := HH.alloc (.cells #[.pointer (some ⟨h, 0, none⟩), .int .i64 mm, .int .i64 line, .int .i64 ok, .int .i64 oa, .int .i64 ob, .int .i64 oc, .int .u64 a, .int .u64 b, .int .u64 c, .int .u64 n, .int .u64 t, .int .u64 p, .int .i64 back, .int .i64 ret, .bool false] 251)
  have e1 : h ≠ w5.heap.size := by omega
  have e2 : ab ≠ w5.heap.size := by omega
  have e3 : db ≠ w5.heap.size := by omega
  go_wp2_with (first | (refine (HK.out _ _ HHa rX e1 e2 e3).mono ?_; rintro e w6 ⟨rfl, H6, X6, F6⟩))
  clear hcf HK hl HLk hnf HG HT HP HB HCl hM
  have hR6 := (hR.alloc (.cells #[.pointer (some ⟨h, 0, none⟩), .int .i64 mm, .int .i64 line, .int .i64 ok, .int .i64 oa, .int .i64 ob, .int .i64 oc, .int .u64 a, .int .u64 b, .int .u64 c, .int .u64 n, .int .u64 t, .int .u64 p, .int .i64 back, .int .i64 ret, .bool false] 251)).kept F6 (by simp; omega)
  have hFF6 := (hFF.alloc (.cells #[.pointer (some ⟨h, 0, none⟩), .int .i64 mm, .int .i64 line, .int .i64 ok, .int .i64 oa, .int .i64 ob, .int .i64 oc, .int .u64 a, .int .u64 b, .int .u64 c, .int .u64 n, .int .u64 t, .int .u64 p, .int .i64 back, .int .i64 ret, .bool false] 251)).trans_new F6 (by simp; omega)
  obtain ⟨yb, hrb, B⟩ : ∃ yb, yb = w5.heap.size ∧ SB w h ab db yb s2 zMut 251 [.pointer (some ⟨h, 0, none⟩), .int .i64 mm, .int .i64 line2, .int .i64 ok2, .int .i64 oa2, .int .i64 ob2, .int .i64 oc2, .int .u64 a2, .int .u64 b2, .int .u64 c2, .int .u64 n2, .int .u64 t2, .int .u64 p2, .int .i64 back2, .int .i64 ret2, .bool lin2] w6 := ⟨_, rfl, H6, hR6, X6, hFF6, q0, q2, q1, by omega⟩
  rw [← hrb]
  clear hrb hR6 hFF6 H6 X6 F6 rX HHa hR hFF HH hX kX kR fR
  have kY := B.y.cell
  replace B := B.drew
  refine wp_region_held_drew (S := (fun (W : World) => W.cell? ⟨yb, 2, none⟩ = some (.int .i64 line2) ∧ W.cell? ⟨yb, 3, none⟩ = some (.int .i64 ok2) ∧ W.cell? ⟨yb, 4, none⟩ = some (.int .i64 oa2) ∧ W.cell? ⟨yb, 5, none⟩ = some (.int .i64 ob2) ∧ W.cell? ⟨yb, 6, none⟩ = some (.int .i64 oc2) ∧ W.cell? ⟨yb, 7, none⟩ = some (.int .u64 a2) ∧ W.cell? ⟨yb, 8, none⟩ = some (.int .u64 b2) ∧ W.cell? ⟨yb, 9, none⟩ = some (.int .u64 c2) ∧ W.cell? ⟨yb, 10, none⟩ = some (.int .u64 n2) ∧ W.cell? ⟨yb, 11, none⟩ = some (.int .u64 t2) ∧ W.cell? ⟨yb, 12, none⟩ = some (.int .u64 p2) ∧ W.cell? ⟨yb, 13, none⟩ = some (.int .i64 back2) ∧ W.cell? ⟨yb, 14, none⟩ = some (.int .i64 ret2) ∧ W.cell? ⟨yb, 15, none⟩ = some (.bool lin2))) (by kernel_rfl) (by exact ⟨B.y.cell 2, B.y.cell 3, B.y.cell 4, B.y.cell 5, B.y.cell 6, B.y.cell 7, B.y.cell 8, B.y.cell 9, B.y.cell 10, B.y.cell 11, B.y.cell 12, B.y.cell 13, B.y.cell 14, B.y.cell 15⟩) (fun hHeld => ?_)
  obtain ⟨W8, hW8, B8⟩ : ∃ W8, W8 = w6.drew ∧ SB w h ab db _ _ _ _ _ W8 := ⟨_, rfl, B⟩
  rw [← hW8] at hHeld ⊢
  clear B hW8
  have B := B8
  clear B8
  refine wpAnyH_take (i := 0) (v := ?_) rfl (by kernel_rfl) (by kernel_rfl) (by kernel_rfl) (fun _ _ _ h => h) (Or.inl ⟨by rfl, ?_⟩) (by assumption) ?_
  rotate_left
  · intro w hSw; (try dsimp only at hSw); go_simp; first | done | with_reducible rfl
  try simp only [Act.put, List.getElem_toArray, List.getElem_cons_succ, List.getElem_cons_zero, List.setIfInBounds_toArray, List.set_cons_zero, List.set_cons_succ]
  refine wpAnyH_take (i := 1) (v := ?_) rfl (by kernel_rfl) (by kernel_rfl) (by kernel_rfl) (fun _ _ _ h => h) (Or.inl ⟨by rfl, ?_⟩) (by assumption) ?_
  rotate_left
  · intro w hSw; (try dsimp only at hSw); go_simp; first | done | with_reducible rfl
  try simp only [Act.put, List.getElem_toArray, List.getElem_cons_succ, List.getElem_cons_zero, List.setIfInBounds_toArray, List.set_cons_zero, List.set_cons_succ]
  refine wpAnyH_take (i := 2) (v := ?_) rfl (by kernel_rfl) (by kernel_rfl) (by kernel_rfl) (fun _ _ _ h => h) (Or.inl ⟨by rfl, ?_⟩) (by assumption) ?_
  rotate_left
  · intro w hSw; (try dsimp only at hSw); go_simp; first | done | with_reducible rfl
  try simp only [Act.put, List.getElem_toArray, List.getElem_cons_succ, List.getElem_cons_zero, List.setIfInBounds_toArray, List.set_cons_zero, List.set_cons_succ]
  refine wpAnyH_take (i := 3) (v := ?_) rfl (by kernel_rfl) (by kernel_rfl) (by kernel_rfl) (fun _ _ _ h => h) (Or.inl ⟨by rfl, ?_⟩) (by assumption) ?_
  rotate_left
  · intro w hSw; (try dsimp only at hSw); go_simp; first | done | with_reducible rfl
  try simp only [Act.put, List.getElem_toArray, List.getElem_cons_succ, List.getElem_cons_zero, List.setIfInBounds_toArray, List.set_cons_zero, List.set_cons_succ]
  refine wpAnyH_take (i := 4) (v := ?_) rfl (by kernel_rfl) (by kernel_rfl) (by kernel_rfl) (fun _ _ _ h => h) (Or.inl ⟨by rfl, ?_⟩) (by assumption) ?_
  rotate_left
  · intro w hSw; (try dsimp only at hSw); go_simp; first | done | with_reducible rfl
  try simp only [Act.put, List.getElem_toArray, List.getElem_cons_succ, List.getElem_cons_zero, List.setIfInBounds_toArray, List.set_cons_zero, List.set_cons_succ]
  refine wpAnyH_take (i := 5) (v := ?_) rfl (by kernel_rfl) (by kernel_rfl) (by kernel_rfl) (fun _ _ _ h => h) (Or.inl ⟨by rfl, ?_⟩) (by assumption) ?_
  rotate_left
  · intro w hSw; (try dsimp only at hSw); go_simp; first | done | with_reducible rfl
  try simp only [Act.put, List.getElem_toArray, List.getElem_cons_succ, List.getElem_cons_zero, List.setIfInBounds_toArray, List.set_cons_zero, List.set_cons_succ]
  refine wpAnyH_take (i := 6) (v := ?_) rfl (by kernel_rfl) (by kernel_rfl) (by kernel_rfl) (fun _ _ _ h => h) (Or.inl ⟨by rfl, ?_⟩) (by assumption) ?_
  rotate_left
  · intro w hSw; (try dsimp only at hSw); go_simp; first | done | with_reducible rfl
  try simp only [Act.put, List.getElem_toArray, List.getElem_cons_succ, List.getElem_cons_zero, List.setIfInBounds_toArray, List.set_cons_zero, List.set_cons_succ]
  refine wpAnyH_take (i := 7) (v := ?_) rfl (by kernel_rfl) (by kernel_rfl) (by kernel_rfl) (fun _ _ _ h => h) (Or.inl ⟨by rfl, ?_⟩) (by assumption) ?_
  rotate_left
  · intro w hSw; (try dsimp only at hSw); go_simp; first | done | with_reducible rfl
  try simp only [Act.put, List.getElem_toArray, List.getElem_cons_succ, List.getElem_cons_zero, List.setIfInBounds_toArray, List.set_cons_zero, List.set_cons_succ]
  refine wpAnyH_ready (rs := [8]) (by kernel_rfl) (by simp) ?_
  refine AllReadyH.cons rfl (fun K hK => ?_) AllReadyH.nil
  have kR := B.r.cell
  have fR := B.r.free
  go_simp
  replace B := B.ret (.int .i64 line2) (.int .i64 ok2) (.int .i64 oa2) (.int .i64 ob2) (.int .i64 oc2) (.int .u64 a2) (.int .u64 b2) (.int .u64 c2) (.int .u64 n2) (.int .u64 t2) (.int .u64 p2) (.int .i64 back2) (.int .i64 ret2)
  refine hK.out _ _ (by exact ⟨B.y.cell 2, B.y.cell 3, B.y.cell 4, B.y.cell 5, B.y.cell 6, B.y.cell 7, B.y.cell 8, B.y.cell 9, B.y.cell 10, B.y.cell 11, B.y.cell 12, B.y.cell 13, B.y.cell 14, B.y.cell 15⟩) (fun hHeld => ?_)
  clear hK K
  try simp only [Act.put, List.getElem_toArray, List.getElem_cons_succ, List.getElem_cons_zero, List.setIfInBounds_toArray, List.set_cons_zero, List.set_cons_succ]
  refine wpAnyH_take (i := 9) (v := ?_) rfl (by kernel_rfl) (by kernel_rfl) (by kernel_rfl) (fun _ _ _ h => h) (Or.inl ⟨by rfl, ?_⟩) (by assumption) ?_
  rotate_left
  · intro w hSw; (try dsimp only at hSw); go_simp; first | done | with_reducible rfl
  try simp only [Act.put, List.getElem_toArray, List.getElem_cons_succ, List.getElem_cons_zero, List.setIfInBounds_toArray, List.set_cons_zero, List.set_cons_succ]
  refine wpAnyH_take (i := 10) (v := ?_) rfl (by kernel_rfl) (by kernel_rfl) (by kernel_rfl) (fun _ _ _ h => h) (Or.inl ⟨by rfl, ?_⟩) (by assumption) ?_
  rotate_left
  · intro w hSw; (try dsimp only at hSw); go_simp; first | done | with_reducible rfl
  try simp only [Act.put, List.getElem_toArray, List.getElem_cons_succ, List.getElem_cons_zero, List.setIfInBounds_toArray, List.set_cons_zero, List.set_cons_succ]
  refine wpAnyH_done (by kernel_rfl) ?_ _
  clear hHeld
  obtain ⟨W9, hW9, B9⟩ : ∃ W9, W9 = _ ∧ SB w h ab db _ _ _ _ _ W9 := ⟨_, rfl, B⟩
  rw [← hW9]
  clear B hW9
  have B := B9
  clear B9
  have kR := B.r.cell
  go_wp2_with fail
  refine bodyPost_ret (v := .tuple #[.agg #[.int .i64 line2, .int .i64 ok2, .int .i64 oa2, .int .i64 ob2, .int .i64 oc2, .int .u64 a2, .int .u64 b2, .int .u64 c2, .int .u64 n2, .int .u64 t2, .int .u64 p2, .int .i64 back2, .int .i64 ret2], .bool lin2, .bool false]) (by simp [results, Try.results150, go_sem, kR]) rfl ⟨rfl, ?_, ?_⟩
  · exact B.H
  · exact B.f

set_option maxRecDepth 100000 in
set_option maxHeartbeats 8000000 in
theorem lisp_n {w : World} {h ab db : Nat} {s : HS} (H : HAt w h ab db s) (mm : Int) (x : MutV) (hx : x.Wf) (ig : (gateM s.clear mm x).is = false) (it : (tkM s.clear x).is = false) (ip : (popM s.clear x).is = false) (ib : (brM s.clear x).is = false) (hk : mget linesL x.line = none) :
    Calls Try.prog 150 #[.pointer (some ⟨h, 0, none⟩), .int .i64 mm, x.val] w fun e w' => e = .returned (.tuple #[x.val, .bool false, .bool false]) ∧ HAt w' h ab db (s.clear) ∧ Fr [h, db] w w' := by
  have hnf : ∀ (w : World), (Go.binOp BinOp.eql 246 .nilFunc .nilFunc).run Try.prog w = .ok (.bool true) w := fun _ => by kernel_rfl
  have HG := fun W (H : HAt W h ab db s.clear) => gate_any H mm x
  rw [gateM_no ig] at HG
  have HT := fun W (H : HAt W h ab db s.clear) => tk_any H x
  rw [tkM_no it] at HT
  have HP := fun W (H : HAt W h ab db s.clear) => pop_any H x hx
  rw [popM_no ip] at HP
  have HB := fun W (H : HAt W h ab db s.clear) => br_any H x hx
  rw [brM_no ib] at HB
  clear hx ig it ip ib
  have HLk := fun (W : World) (r : Nat) (hM : MapAt W r linesL) => run_look (P := Try.prog) Try.underlying247 Try.underlying3 hM x.line Value.nilFunc (by kernel_rfl)
  rw [hk] at HLk
  simp only [Option.getD_none] at HLk
  clear hk
  have HCl := hid (fun W (H : HAt W h ab db s) => hclr_any H)
  obtain ⟨sc, hsc⟩ : ∃ z, z = s.clear := ⟨_, rfl⟩
  rw [← hsc] at HCl HG HT HP HB ⊢
  clear hsc
  obtain ⟨line, ok, oa, ob, oc, a, b, c, n, t, p, back, ret⟩ := x
  simp only [MutV.val] at HG HT HP HB ⊢
  replace HG := hid HG
  replace HT := hid HT
  replace HP := hid HP
  replace HB := hid HB
  replace HLk := hid HLk
  have q0 := H.blk.lt
  have q1 := H.ar.dat.lt
  have q2 := H.ar.hdr.lt
  have hX := (Blk.new w [.int .i64 line, .int .i64 ok, .int .i64 oa, .int .i64 ob, .int .i64 oc, .int .u64 a, .int .u64 b, .int .u64 c, .int .u64 n, .int .u64 t, .int .u64 p, .int .i64 back, .int .i64 ret] 54).alloc (.cells #[.int .i64 0, .int .i64 0, .int .i64 0, .int .i64 0, .int .i64 0, .int .u64 0, .int .u64 0, .int .u64 0, .int .u64 0, .int .u64 0, .int .u64 0, .int .i64 0, .int .i64 0] 54)
  have hR := Blk.new (w.alloc (.cells #[.int .i64 line, .int .i64 ok, .int .i64 oa, .int .i64 ob, .int .i64 oc, .int .u64 a, .int .u64 b, .int .u64 c, .int .u64 n, .int .u64 t, .int .u64 p, .int .i64 back, .int .i64 ret] 54)) zMut 54
  simp only [World.size_alloc] at hR
  have HH := (H.alloc (.cells #[.int .i64 line, .int .i64 ok, .int .i64 oa, .int .i64 ob, .int .i64 oc, .int .u64 a, .int .u64 b, .int .u64 c, .int .u64 n, .int .u64 t, .int .u64 p, .int .i64 back, .int .i64 ret] 54)).alloc (.cells #[.int .i64 0, .int .i64 0, .int .i64 0, .int .i64 0, .int .i64 0, .int .u64 0, .int .u64 0, .int .u64 0, .int .u64 0, .int .u64 0, .int .u64 0, .int .i64 0, .int .i64 0] 54)
  have hFF := ((Fr.refl [h, db] w).alloc (.cells #[.int .i64 line, .int .i64 ok, .int .i64 oa, .int .i64 ob, .int .i64 oc, .int .u64 a, .int .u64 b, .int .u64 c, .int .u64 n, .int .u64 t, .int .u64 p, .int .i64 back, .int .i64 ret] 54)).alloc (.cells #[.int .i64 0, .int .i64 0, .int .i64 0, .int .i64 0, .int .i64 0, .int .u64 0, .int .u64 0, .int .u64 0, .int .u64 0, .int .u64 0, .int .u64 0, .int .i64 0, .int .i64 0] 54)
  have nX : w.heap.size ∉ [h, db] := by simp; omega
  have nR : w.heap.size + 1 ∉ [h, db] := by simp; omega
  have d1 : h ≠ w.heap.size + 1 := by omega
  have d2 : db ≠ w.heap.size + 1 := by omega
  have d3 : ab ≠ w.heap.size + 1 := by omega
  clear H
  simp only [zMut] at hR
  have kX := hX.cell
  have kR := hR.cell
  have fR := hR.free
  go_enter Try.func150, Try.ntmps150
  go_wp2_with (first | (go_at_call 148; refine (HCl.out _ HH).mono ?_; rintro e w2 ⟨rfl, HH, hF2⟩; (replace hX := hX.kept hF2 nX); (replace hR := hR.kept hF2 nR); (replace hFF := hFF.trans hF2); (have lX := hX.lt); (have lR := hR.lt); (replace kX := hX.cell); (replace kR := hR.cell); (replace fR := hR.free)) | (go_at_call 187; refine (HB.out _ (HH.alloc _)).mono ?_; rintro e w4 ⟨rfl, HH, hF2⟩; (replace hX := (hX.alloc _).kept hF2 nX); (replace hR := (hR.alloc _).kept hF2 nR); (replace hFF := (hFF.alloc _).trans hF2); (replace lX := hX.lt); (replace lR := hR.lt); (have hY := Blk.new w4 [.int .i64 line, .int .i64 ok, .int .i64 oa, .int .i64 ob, .int .i64 oc, .int .u64 a, .int .u64 b, .int .u64 c, .int .u64 n, .int .u64 t, .int .u64 p, .int .i64 back, .int .i64 ret] 54); (have kY := hY.cell); (replace kX := (hX.alloc (.cells #[.int .i64 line, .int .i64 ok, .int .i64 oa, .int .i64 ob, .int .i64 oc, .int .u64 a, .int .u64 b, .int .u64 c, .int .u64 n, .int .u64 t, .int .u64 p, .int .i64 back, .int .i64 ret] 54)).cell); (replace kR := (hR.alloc (.cells #[.int .i64 line, .int .i64 ok, .int .i64 oa, .int .i64 ob, .int .i64 oc, .int .u64 a, .int .u64 b, .int .u64 c, .int .u64 n, .int .u64 t, .int .u64 p, .int .i64 back, .int .i64 ret] 54)).cell); (replace fR := (hR.alloc (.cells #[.int .i64 line, .int .i64 ok, .int .i64 oa, .int .i64 ob, .int .i64 oc, .int .u64 a, .int .u64 b, .int .u64 c, .int .u64 n, .int .u64 t, .int .u64 p, .int .i64 back, .int .i64 ret] 54)).free); (have kR0 := hR.cell); (have fR0 := hR.free); (have kX0 := hX.cell)) | (go_at_call 186; refine (HP.out _ (HH.alloc _)).mono ?_; rintro e w4 ⟨rfl, HH, hF2⟩; (replace hX := (hX.alloc _).kept hF2 nX); (replace hR := (hR.alloc _).kept hF2 nR); (replace hFF := (hFF.alloc _).trans hF2); (replace lX := hX.lt); (replace lR := hR.lt); (have hY := Blk.new w4 [.int .i64 line, .int .i64 ok, .int .i64 oa, .int .i64 ob, .int .i64 oc, .int .u64 a, .int .u64 b, .int .u64 c, .int .u64 n, .int .u64 t, .int .u64 p, .int .i64 back, .int .i64 ret] 54); (have kY := hY.cell); (replace kX := (hX.alloc (.cells #[.int .i64 line, .int .i64 ok, .int .i64 oa, .int .i64 ob, .int .i64 oc, .int .u64 a, .int .u64 b, .int .u64 c, .int .u64 n, .int .u64 t, .int .u64 p, .int .i64 back, .int .i64 ret] 54)).cell); (replace kR := (hR.alloc (.cells #[.int .i64 line, .int .i64 ok, .int .i64 oa, .int .i64 ob, .int .i64 oc, .int .u64 a, .int .u64 b, .int .u64 c, .int .u64 n, .int .u64 t, .int .u64 p, .int .i64 back, .int .i64 ret] 54)).cell); (replace fR := (hR.alloc (.cells #[.int .i64 line, .int .i64 ok, .int .i64 oa, .int .i64 ob, .int .i64 oc, .int .u64 a, .int .u64 b, .int .u64 c, .int .u64 n, .int .u64 t, .int .u64 p, .int .i64 back, .int .i64 ret] 54)).free); (have kR0 := hR.cell); (have fR0 := hR.free); (have kX0 := hX.cell)) | (go_at_call 35; refine (HT.out _ (HH.alloc _)).mono ?_; rintro e w4 ⟨rfl, HH, hF2⟩; (replace hX := (hX.alloc _).kept hF2 nX); (replace hR := (hR.alloc _).kept hF2 nR); (replace hFF := (hFF.alloc _).trans hF2); (replace lX := hX.lt); (replace lR := hR.lt); (have hY := Blk.new w4 [.int .i64 line, .int .i64 ok, .int .i64 oa, .int .i64 ob, .int .i64 oc, .int .u64 a, .int .u64 b, .int .u64 c, .int .u64 n, .int .u64 t, .int .u64 p, .int .i64 back, .int .i64 ret] 54); (have kY := hY.cell); (replace kX := (hX.alloc (.cells #[.int .i64 line, .int .i64 ok, .int .i64 oa, .int .i64 ob, .int .i64 oc, .int .u64 a, .int .u64 b, .int .u64 c, .int .u64 n, .int .u64 t, .int .u64 p, .int .i64 back, .int .i64 ret] 54)).cell); (replace kR := (hR.alloc (.cells #[.int .i64 line, .int .i64 ok, .int .i64 oa, .int .i64 ob, .int .i64 oc, .int .u64 a, .int .u64 b, .int .u64 c, .int .u64 n, .int .u64 t, .int .u64 p, .int .i64 back, .int .i64 ret] 54)).cell); (replace fR := (hR.alloc (.cells #[.int .i64 line, .int .i64 ok, .int .i64 oa, .int .i64 ob, .int .i64 oc, .int .u64 a, .int .u64 b, .int .u64 c, .int .u64 n, .int .u64 t, .int .u64 p, .int .i64 back, .int .i64 ret] 54)).free); (have kR0 := hR.cell); (have fR0 := hR.free); (have kX0 := hX.cell)) | (go_at_call 41; refine (HG.out _ HH).mono ?_; rintro e w4 ⟨rfl, HH, hF2⟩; (replace hX := hX.kept hF2 nX); (replace hR := hR.kept hF2 nR); (replace hFF := hFF.trans hF2); (replace lX := hX.lt); (replace lR := hR.lt); (have hY := Blk.new w4 [.int .i64 line, .int .i64 ok, .int .i64 oa, .int .i64 ob, .int .i64 oc, .int .u64 a, .int .u64 b, .int .u64 c, .int .u64 n, .int .u64 t, .int .u64 p, .int .i64 back, .int .i64 ret] 54); (have kY := hY.cell); (replace kX := (hX.alloc (.cells #[.int .i64 line, .int .i64 ok, .int .i64 oa, .int .i64 ob, .int .i64 oc, .int .u64 a, .int .u64 b, .int .u64 c, .int .u64 n, .int .u64 t, .int .u64 p, .int .i64 back, .int .i64 ret] 54)).cell); (replace kR := (hR.alloc (.cells #[.int .i64 line, .int .i64 ok, .int .i64 oa, .int .i64 ob, .int .i64 oc, .int .u64 a, .int .u64 b, .int .u64 c, .int .u64 n, .int .u64 t, .int .u64 p, .int .i64 back, .int .i64 ret] 54)).cell); (replace fR := (hR.alloc (.cells #[.int .i64 line, .int .i64 ok, .int .i64 oa, .int .i64 ob, .int .i64 oc, .int .u64 a, .int .u64 b, .int .u64 c, .int .u64 n, .int .u64 t, .int .u64 p, .int .i64 back, .int .i64 ret] 54)).free); (have kR0 := hR.cell); (have fR0 := hR.free); (have kX0 := hX.cell)))
  obtain ⟨W9, hW9, HH, hX, hR, hFF⟩ : ∃ W9, W9 = w4.alloc (.cells #[.int .i64 line, .int .i64 ok, .int .i64 oa, .int .i64 ob, .int .i64 oc, .int .u64 a, .int .u64 b, .int .u64 c, .int .u64 n, .int .u64 t, .int .u64 p, .int .i64 back, .int .i64 ret] 54) ∧ HAt W9 h ab db sc ∧ Blk W9 w.heap.size 54 [.int .i64 line, .int .i64 ok, .int .i64 oa, .int .i64 ob, .int .i64 oc, .int .u64 a, .int .u64 b, .int .u64 c, .int .u64 n, .int .u64 t, .int .u64 p, .int .i64 back, .int .i64 ret] ∧ Blk W9 (w.heap.size + 1) 54 [.int .i64 0, .int .i64 0, .int .i64 0, .int .i64 0, .int .i64 0, .int .u64 0, .int .u64 0, .int .u64 0, .int .u64 0, .int .u64 0, .int .u64 0, .int .i64 0, .int .i64 0] ∧ Fr [h, db] w W9 := ⟨_, rfl, HH.alloc _, hX.alloc _, hR.alloc _, hFF.alloc _⟩
  rw [← hW9]
  clear hW9 hY kX kR fR kY kR0 fR0 kX0 lX lR
  have kX := hX.cell
  refine wp_region_held_drew (S := (fun (W : World) => W.cell? ⟨w.heap.size, 0, none⟩ = some (.int .i64 line))) (by kernel_rfl) (by exact hX.drew.cell 0) (fun hHeld => ?_)
  obtain ⟨W8, hW8, HH, hX, hR, hFF⟩ : ∃ W8, W8 = W9.drew ∧ HAt W8 h ab db sc ∧ Blk W8 w.heap.size 54 [.int .i64 line, .int .i64 ok, .int .i64 oa, .int .i64 ob, .int .i64 oc, .int .u64 a, .int .u64 b, .int .u64 c, .int .u64 n, .int .u64 t, .int .u64 p, .int .i64 back, .int .i64 ret] ∧ Blk W8 (w.heap.size + 1) 54 [.int .i64 0, .int .i64 0, .int .i64 0, .int .i64 0, .int .i64 0, .int .u64 0, .int .u64 0, .int .u64 0, .int .u64 0, .int .u64 0, .int .u64 0, .int .i64 0, .int .i64 0] ∧ Fr [h, db] w W8 := ⟨_, rfl, HH.drew, hX.drew, hR.drew, hFF.drew⟩
  rw [← hW8] at hHeld ⊢
  clear hW8
  refine wpAnyH_take (i := 1) (v := ?_) rfl (by kernel_rfl) (by kernel_rfl) (by kernel_rfl) (fun _ _ _ h => h) (Or.inl ⟨by rfl, ?_⟩) (by assumption) ?_
  rotate_left
  · intro w hSw; (try dsimp only at hSw); go_simp; first | done | with_reducible rfl
  try simp only [Act.put, List.getElem_toArray, List.getElem_cons_succ, List.getElem_cons_zero, List.setIfInBounds_toArray, List.set_cons_zero, List.set_cons_succ]
  refine wpAnyH_take (i := 2) (v := ?_) rfl (by kernel_rfl) (by kernel_rfl) (by kernel_rfl) (fun _ _ _ h => h) (Or.inl ⟨by rfl, ?_⟩) (by assumption) ?_
  rotate_left
  · intro w hSw; (try dsimp only at hSw); go_simp; first | done | with_reducible rfl
  try simp only [Act.put, List.getElem_toArray, List.getElem_cons_succ, List.getElem_cons_zero, List.setIfInBounds_toArray, List.set_cons_zero, List.set_cons_succ]
  refine wpAnyH_ready (rs := [0]) (by kernel_rfl) (by simp) ?_
  refine AllReadyH.cons rfl (fun K hK => ?_) AllReadyH.nil
  go_simp
  go_at_call 188
  refine (lines_any _).mono ?_
  rintro e w5 ⟨⟨r, rfl, hM, _⟩, hF2⟩
  replace HH := HH.kept0 hF2
  replace hX := hX.kept hF2 List.not_mem_nil
  replace hR := hR.kept hF2 List.not_mem_nil
  replace hFF := hFF.trans (hF2.mono (by simp))
  have hl := HLk.out _ _ hM
  go_wp2_with fail
  refine hK.out _ _ (by exact hX.cell 0) (fun hHeld => ?_)
  clear hK K
  try simp only [Act.put, List.getElem_toArray, List.getElem_cons_succ, List.getElem_cons_zero, List.setIfInBounds_toArray, List.set_cons_zero, List.set_cons_succ]
  refine wpAnyH_ready (rs := [3]) (by kernel_rfl) (by simp) ?_
  refine AllReadyH.cons rfl (fun K hK => ?_) AllReadyH.nil
  go_simp
  refine hK.out _ _ (by exact hX.cell 0) (fun hHeld => ?_)
  clear hK K
  try simp only [Act.put, List.getElem_toArray, List.getElem_cons_succ, List.getElem_cons_zero, List.setIfInBounds_toArray, List.set_cons_zero, List.set_cons_succ]
  refine wpAnyH_take (i := 4) (v := ?_) rfl (by kernel_rfl) (by kernel_rfl) (by kernel_rfl) (fun _ _ _ h => h) (Or.inl ⟨by rfl, ?_⟩) (by assumption) ?_
  rotate_left
  · intro w hSw; (try dsimp only at hSw); go_simp; first | done | with_reducible rfl
  try simp only [Act.put, List.getElem_toArray, List.getElem_cons_succ, List.getElem_cons_zero, List.setIfInBounds_toArray, List.set_cons_zero, List.set_cons_succ]
  refine wpAnyH_done (by kernel_rfl) ?_ _
  clear hHeld
  have kX := hX.cell
  have kR := hR.cell
  have fR := hR.free
  go_wp2_with fail
  replace hR := hR.setMu (.int .i64 line) (.int .i64 ok) (.int .i64 oa) (.int .i64 ob) (.int .i64 oc) (.int .u64 a) (.int .u64 b) (.int .u64 c) (.int .u64 n) (.int .u64 t) (.int .u64 p) (.int .i64 back) (.int .i64 ret)
  replace kR := hR.cell
  refine bodyPost_ret (v := .tuple #[.agg #[.int .i64 line, .int .i64 ok, .int .i64 oa, .int .i64 ob, .int .i64 oc, .int .u64 a, .int .u64 b, .int .u64 c, .int .u64 n, .int .u64 t, .int .u64 p, .int .i64 back, .int .i64 ret], .bool false, .bool false]) (by simp [results, Try.results150, go_sem, kR]) rfl ⟨rfl, ?_, ?_⟩
  · repeat (first | with_reducible exact HH | with_reducible refine HAt.alloc ?_ _ | with_reducible refine HAt.other ?_ d1 d3 d2 _)
  · repeat (first | with_reducible exact hFF | with_reducible refine Fr.alloc ?_ _ | with_reducible refine Fr.setNew ?_ (Nat.le_succ _) _)


end Go.Proofs.Ytolkgdchinaonaa
