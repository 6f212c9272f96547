/- mudlarklaw17.BarSteps: the walk. -/
import Derived.Test.YteggckdgjecfmaaBaAny
import Derived.Test.YteggckdgjecfmaaAwake17
import Derived.Test.YteggckdgjecfmaaLaw10
namespace Go.Proofs.Yteggckdgjecfmaa
open Go.RowKit
set_option linter.unusedVariables false
set_option linter.unusedSimpArgs false

theorem shut_lo (line j c m a p tail cyc : Int) (found : Bool) (g1 : decide (12 ≤ line) = false) (w : World) : Calls Try.prog 68 #[.agg #[.int .i64 line, .int .i64 j, .int .i64 c, .int .i64 m, .int .u64 a, .int .u64 p, .bool found, .int .i64 tail, .int .i64 cyc]] w fun e w' => e = .returned (.bool false) ∧ Fr [] w w' := by
  go_enter Try.func68, Try.ntmps68
  go_wp2
  go_ret
  exact ⟨rfl, (Fr.refl _ _).alloc _⟩

theorem shut_in (line j c m a p tail cyc : Int) (found : Bool) (g1 : decide (12 ≤ line) = true) (g2 : decide (line ≤ 15) = true) (w : World) : Calls Try.prog 68 #[.agg #[.int .i64 line, .int .i64 j, .int .i64 c, .int .i64 m, .int .u64 a, .int .u64 p, .bool found, .int .i64 tail, .int .i64 cyc]] w fun e w' => e = .returned (.bool true) ∧ Fr [] w w' := by
  go_enter Try.func68, Try.ntmps68
  go_wp2
  go_ret
  exact ⟨rfl, (Fr.refl _ _).alloc _⟩

theorem shut_hi (line j c m a p tail cyc : Int) (found : Bool) (g1 : decide (12 ≤ line) = true) (g2 : decide (line ≤ 15) = false) (w : World) : Calls Try.prog 68 #[.agg #[.int .i64 line, .int .i64 j, .int .i64 c, .int .i64 m, .int .u64 a, .int .u64 p, .bool found, .int .i64 tail, .int .i64 cyc]] w fun e w' => e = .returned (.bool false) ∧ Fr [] w w' := by
  go_enter Try.func68, Try.ntmps68
  go_wp2
  go_ret
  exact ⟨rfl, (Fr.refl _ _).alloc _⟩

set_option maxRecDepth 100000 in
set_option maxHeartbeats 4000000 in
theorem barSteps_any_lo (c : Cfg) (v : Value) (l : List Int) (x : ColV) (g : x.line < 12) (w : World) (hx : x.Wf) (hv : RdS w v l.length (u64s l)) (hl : l.length ≤ 35184372088832) (hwf : ∀ y, y ∈ l → 0 ≤ y ∧ y < 18446744073709551616) :
    Calls Try.prog 12 #[c.val, v, x.val] w fun e w' => e = .returned (.bool true) ∧ Fr [] w w' := by
  obtain ⟨ua, uc, rfl, hu⟩ := hv.elim
  clear hu
  have g1 : decide (12 ≤ x.line) = false := by simpa using g
  have HHo := hid (fun W => shut_lo x.line x.j x.c x.m x.a x.p x.tail x.cyc x.found g1 W)
  clear g
  have HN := hid (fun W => banil W x.line x.j x.c x.m x.a x.p x.tail x.cyc x.found)
  by_cases hbo : bothOk c l.length
  · have HBo := fun W (f : Fr [] w W) => hid (both_ok (w := W) hbo.1 hbo.2.1 _ l (hv.kept0 f) hbo.2.2 hwf)
    clear hv hbo hl hwf
    obtain ⟨s0, hs0⟩ : ∃ s : HS, s = ⟨c, l, Acc.z⟩ := ⟨_, rfl⟩
    replace hs0 := hid hs0
    by_cases hnear : x.Near
    · have HX := fun {W : World} {h ab db : Nat} (H : HAt W h ab db s0) => ba_any H x hx hnear
      have HY := fun {W : World} {r rd cap : Nat} {ext : List Value} (H : RAt W r rd cap ext s0) => rba_any H x hx hnear
      have HFa := hid (fun W => far_no x hnear W)
      obtain ⟨res, hres⟩ : ∃ r, r = barM s0 x := ⟨_, rfl⟩
      rw [← hres] at HX HY
      clear hres hnear hx HN
      obtain ⟨⟨line2, j2, cq2, cm_2, a2, p2, found2, tail2, cyc2⟩, fl0, fl1, s2⟩ := res
      simp only [ColV.val] at HX HY
      have HAl := fun {W : World} {h ab db r rd cap : Nat} {ext : List Value} (H : HAt W h ab db s2) (R : RAt W r rd cap ext s2) => hid (by have := alike_any H R; simp only [decide_true, Bool.and_self] at this; exact this)
      obtain ⟨line, j, cq, cm_, a, p, found, tail, cyc⟩ := x
      unfold ColV.val
      obtain ⟨cc, cm, cr, cg⟩ := c
      simp only at g1
      go_enter Try.func12, Try.ntmps12
      have hX := Blk.new (w.alloc (.cells #[.int .i64 cc, .int .i64 cm, .int .i64 cr, .int .i64 cg] 45)) [.int .i64 line, .int .i64 j, .int .i64 cq, .int .i64 cm_, .int .u64 a, .int .u64 p, .bool found, .int .i64 tail, .int .i64 cyc] 86
      have hB := (Blk.new w [.int .i64 cc, .int .i64 cm, .int .i64 cr, .int .i64 cg] 45).alloc (.cells #[.int .i64 line, .int .i64 j, .int .i64 cq, .int .i64 cm_, .int .u64 a, .int .u64 p, .bool found, .int .i64 tail, .int .i64 cyc] 86)
      simp only [World.size_alloc] at hX
      have hFF := ((Fr.refl [] w).alloc (.cells #[.int .i64 cc, .int .i64 cm, .int .i64 cr, .int .i64 cg] 45)).alloc (.cells #[.int .i64 line, .int .i64 j, .int .i64 cq, .int .i64 cm_, .int .u64 a, .int .u64 p, .bool found, .int .i64 tail, .int .i64 cyc] 86)
      have kX := hX.cell
      have kB := hB.cell
      go_wp2_with (first | (go_at_call 67; refine (awake17_any _).mono ?_; rintro e w2 ⟨rfl, hF2⟩; (have hB := hB.kept hF2 (by simp)); (have kB := hB.cell); (have hX := hX.kept hF2 (by simp)); (have kX := hX.cell); (have hFF := hFF.trans hF2)))
      have hX := hX.drew
      have hB := hB.drew
      have hFF := hFF.drew
      have kX := hX.cell
      have kB := hB.cell
      refine wp_region_held_drew (S := (fun w' => w'.cell? ⟨w.heap.size + 1, 0, none⟩ = some (.int .i64 line) ∧ w'.cell? ⟨w.heap.size + 1, 1, none⟩ = some (.int .i64 j) ∧ w'.cell? ⟨w.heap.size + 1, 2, none⟩ = some (.int .i64 cq) ∧ w'.cell? ⟨w.heap.size + 1, 3, none⟩ = some (.int .i64 cm_) ∧ w'.cell? ⟨w.heap.size + 1, 4, none⟩ = some (.int .u64 a) ∧ w'.cell? ⟨w.heap.size + 1, 5, none⟩ = some (.int .u64 p) ∧ w'.cell? ⟨w.heap.size + 1, 6, none⟩ = some (.bool found) ∧ w'.cell? ⟨w.heap.size + 1, 7, none⟩ = some (.int .i64 tail) ∧ w'.cell? ⟨w.heap.size + 1, 8, none⟩ = some (.int .i64 cyc))) (by kernel_rfl) ?_ (fun hHeld => ?_)
      · (try dsimp only); go_keep
      refine wpAnyH_take (i := 0) (v := ?_) rfl (by kernel_rfl) (by kernel_rfl) (by kernel_rfl) (fun _ _ _ h => h) (Or.inl ⟨by rfl, ?_⟩) (by assumption) ?_
      rotate_left
      · intro w hSw; (try dsimp only at hSw); go_simp; first | done | with_reducible rfl
      try simp only [Act.put, List.getElem_toArray, List.getElem_cons_succ, List.getElem_cons_zero, List.setIfInBounds_toArray, List.set_cons_zero, List.set_cons_succ]
      refine wpAnyH_take (i := 2) (v := ?_) rfl (by kernel_rfl) (by kernel_rfl) (by kernel_rfl) (fun _ _ _ h => h) (Or.inl ⟨by rfl, ?_⟩) (by assumption) ?_
      rotate_left
      · intro w hSw; (try dsimp only at hSw); go_simp; first | done | with_reducible rfl
      try simp only [Act.put, List.getElem_toArray, List.getElem_cons_succ, List.getElem_cons_zero, List.setIfInBounds_toArray, List.set_cons_zero, List.set_cons_succ]
      refine wpAnyH_take (i := 3) (v := ?_) rfl (by kernel_rfl) (by kernel_rfl) (by kernel_rfl) (fun _ _ _ h => h) (Or.inl ⟨by rfl, ?_⟩) (by assumption) ?_
      rotate_left
      · intro w hSw; (try dsimp only at hSw); go_simp; first | done | with_reducible rfl
      try simp only [Act.put, List.getElem_toArray, List.getElem_cons_succ, List.getElem_cons_zero, List.setIfInBounds_toArray, List.set_cons_zero, List.set_cons_succ]
      refine wpAnyH_take (i := 4) (v := ?_) rfl (by kernel_rfl) (by kernel_rfl) (by kernel_rfl) (fun _ _ _ h => h) (Or.inl ⟨by rfl, ?_⟩) (by assumption) ?_
      rotate_left
      · intro w hSw; (try dsimp only at hSw); go_simp; first | done | with_reducible rfl
      try simp only [Act.put, List.getElem_toArray, List.getElem_cons_succ, List.getElem_cons_zero, List.setIfInBounds_toArray, List.set_cons_zero, List.set_cons_succ]
      refine wpAnyH_ready (rs := [1]) (by kernel_rfl) (by simp) ?_
      refine AllReadyH.cons rfl (fun K hK => ?_) AllReadyH.nil
      go_simp
      go_at_call 68
      refine (HHo.out _).mono ?_
      rintro e w4 ⟨rfl, hF2⟩
      (have hB := hB.kept hF2 List.not_mem_nil)
      (have kB := hB.cell)
      (have hX := hX.kept hF2 List.not_mem_nil)
      (have kX := hX.cell)
      (have hFF := hFF.trans hF2)
      go_wp2_with fail
      refine hK.out _ _ ?_ (fun hHeld => ?_)
      · (try dsimp only); go_keep
      clear hK K
      try simp only [Act.put, List.getElem_toArray, List.getElem_cons_succ, List.getElem_cons_zero, List.setIfInBounds_toArray, List.set_cons_zero, List.set_cons_succ]
      refine wpAnyH_take (i := 5) (v := ?_) rfl (by kernel_rfl) (by kernel_rfl) (by kernel_rfl) (fun _ _ _ h => h) (Or.inl ⟨by rfl, ?_⟩) (by assumption) ?_
      rotate_left
      · intro w hSw; (try dsimp only at hSw); go_simp; first | done | with_reducible rfl
      try simp only [Act.put, List.getElem_toArray, List.getElem_cons_succ, List.getElem_cons_zero, List.setIfInBounds_toArray, List.set_cons_zero, List.set_cons_succ]
      refine wpAnyH_take (i := 6) (v := undef) rfl (by kernel_rfl) (by kernel_rfl) (by kernel_rfl) (fun _ _ _ h => h) (Or.inr ⟨by rfl, rfl⟩) (by assumption) ?_
      try simp only [Act.put, List.getElem_toArray, List.getElem_cons_succ, List.getElem_cons_zero, List.setIfInBounds_toArray, List.set_cons_zero, List.set_cons_succ]
      refine wpAnyH_take (i := 7) (v := undef) rfl (by kernel_rfl) (by kernel_rfl) (by kernel_rfl) (fun _ _ _ h => h) (Or.inr ⟨by rfl, rfl⟩) (by assumption) ?_
      try simp only [Act.put, List.getElem_toArray, List.getElem_cons_succ, List.getElem_cons_zero, List.setIfInBounds_toArray, List.set_cons_zero, List.set_cons_succ]
      refine wpAnyH_take (i := 8) (v := undef) rfl (by kernel_rfl) (by kernel_rfl) (by kernel_rfl) (fun _ _ _ h => h) (Or.inr ⟨by rfl, rfl⟩) (by assumption) ?_
      try simp only [Act.put, List.getElem_toArray, List.getElem_cons_succ, List.getElem_cons_zero, List.setIfInBounds_toArray, List.set_cons_zero, List.set_cons_succ]
      refine wpAnyH_take (i := 9) (v := ?_) rfl (by kernel_rfl) (by kernel_rfl) (by kernel_rfl) (fun _ _ _ h => h) (Or.inl ⟨by rfl, ?_⟩) (by assumption) ?_
      rotate_left
      · intro w hSw; (try dsimp only at hSw); go_simp; first | done | with_reducible rfl
      try simp only [Act.put, List.getElem_toArray, List.getElem_cons_succ, List.getElem_cons_zero, List.setIfInBounds_toArray, List.set_cons_zero, List.set_cons_succ]
      refine wpAnyH_take (i := 10) (v := ?_) rfl (by kernel_rfl) (by kernel_rfl) (by kernel_rfl) (fun _ _ _ h => h) (Or.inl ⟨by rfl, ?_⟩) (by assumption) ?_
      rotate_left
      · intro w hSw; (try dsimp only at hSw); go_simp; first | done | with_reducible rfl
      try simp only [Act.put, List.getElem_toArray, List.getElem_cons_succ, List.getElem_cons_zero, List.setIfInBounds_toArray, List.set_cons_zero, List.set_cons_succ]
      refine wpAnyH_done (by kernel_rfl) ?_ _
      clear HHo
      go_wp2_with (first | (go_at_call 62; refine (HBo _ hFF).out.mono ?_; rintro e w5 ⟨⟨h, ab, db, r, rd, cap, ext, rfl, HH, HR, q1, q2, q3, q4, q5, d1, d2, d3, d4, d5, d6⟩, hF2⟩; rw [← hs0.out] at HH HR; (have hXl := hX.lt); (have hX := hX.kept hF2 (by simp)); (have nX : w.heap.size + 1 ∉ [h, db] := by simp; omega); (have nR : r ∉ [h, db] := by simp; omega); (have nRd : rd ∉ [h, db] := by simp; omega); (have nH : h ∉ [r, rd] := by simp; omega); (have nAb : ab ∉ [r, rd] := by simp; omega); (have nDb : db ∉ [r, rd] := by simp; omega); (have sF := hFF.size); (have hSS := fun i (m : i ∈ [h, db]) (l : i < w.heap.size) => (show i ∈ ([] : List Nat) by simp at m; omega)); (have hST := fun i (m : i ∈ [r, rd]) (l : i < w.heap.size) => (show i ∈ ([] : List Nat) by simp at m; omega)); (have kX := hX.cell); (have hFF := hFF.trans hF2); clear d1 d2 d3 d4 d5 d6 q1 q2 q3 q4 q5 sF) | (go_at_call 63; refine (HFa.out _).mono ?_; rintro e w5 ⟨rfl, hF2⟩; (have HH := HH.kept0 hF2); (have HR := HR.kept0 hF2); (have hX := hX.kept hF2 (by simp)); (have kX := hX.cell); (have hFF := hFF.trans hF2)) | (go_at_call 69; refine (HX HH).mono ?_; rintro e w6 ⟨rfl, HH2, hF2⟩; (have HR := HR.kept hF2 nR nRd); (have hX := hX.kept hF2 nX); (have kX := (hX.alloc (.cells #[.int .i64 line2, .int .i64 j2, .int .i64 cq2, .int .i64 cm_2, .int .u64 a2, .int .u64 p2, .bool found2, .int .i64 tail2, .int .i64 cyc2] 86)).cell); (have hFF := hFF.trans_new hF2 hSS)) | (go_at_call 70; refine (HY (HR.alloc _)).mono ?_; rintro e w7 ⟨rfl, HR2, hF2⟩; (have HH2 := (HH2.alloc _).kept hF2 nH nAb nDb); (have nA : w6.heap.size ∉ [r, rd] := by have := HR.blk.lt; have := HR.ar.dat.lt; simp; omega); (have hA := (Blk.new w6 [.int .i64 line2, .int .i64 j2, .int .i64 cq2, .int .i64 cm_2, .int .u64 a2, .int .u64 p2, .bool found2, .int .i64 tail2, .int .i64 cyc2] 86).kept hF2 nA); (have kA := (hA.alloc (.cells #[.int .i64 line2, .int .i64 j2, .int .i64 cq2, .int .i64 cm_2, .int .u64 a2, .int .u64 p2, .bool found2, .int .i64 tail2, .int .i64 cyc2] 86)).cell); (have hFF := (hFF.alloc _).trans_new hF2 hST)) | (go_at_call 66; refine (HAl (HH2.alloc _) (HR2.alloc _)).out.mono ?_; rintro e w8 ⟨rfl, hF2⟩; (have hFF := (hFF.alloc _).trans hF2)))
      go_ret
      exact ⟨rfl, hFF⟩
    · have HFa := hid (fun W => far_yes x hnear W)
      clear hx hnear
      obtain ⟨line, j, cq, cm_, a, p, found, tail, cyc⟩ := x
      unfold ColV.val
      obtain ⟨cc, cm, cr, cg⟩ := c
      simp only at g1
      go_enter Try.func12, Try.ntmps12
      have hX := Blk.new (w.alloc (.cells #[.int .i64 cc, .int .i64 cm, .int .i64 cr, .int .i64 cg] 45)) [.int .i64 line, .int .i64 j, .int .i64 cq, .int .i64 cm_, .int .u64 a, .int .u64 p, .bool found, .int .i64 tail, .int .i64 cyc] 86
      have hB := (Blk.new w [.int .i64 cc, .int .i64 cm, .int .i64 cr, .int .i64 cg] 45).alloc (.cells #[.int .i64 line, .int .i64 j, .int .i64 cq, .int .i64 cm_, .int .u64 a, .int .u64 p, .bool found, .int .i64 tail, .int .i64 cyc] 86)
      simp only [World.size_alloc] at hX
      have hFF := ((Fr.refl [] w).alloc (.cells #[.int .i64 cc, .int .i64 cm, .int .i64 cr, .int .i64 cg] 45)).alloc (.cells #[.int .i64 line, .int .i64 j, .int .i64 cq, .int .i64 cm_, .int .u64 a, .int .u64 p, .bool found, .int .i64 tail, .int .i64 cyc] 86)
      have kX := hX.cell
      have kB := hB.cell
      go_wp2_with (first | (go_at_call 67; refine (awake17_any _).mono ?_; rintro e w2 ⟨rfl, hF2⟩; (have hB := hB.kept hF2 (by simp)); (have kB := hB.cell); (have hX := hX.kept hF2 (by simp)); (have kX := hX.cell); (have hFF := hFF.trans hF2)))
      have hX := hX.drew
      have hB := hB.drew
      have hFF := hFF.drew
      have kX := hX.cell
      have kB := hB.cell
      refine wp_region_held_drew (S := (fun w' => w'.cell? ⟨w.heap.size + 1, 0, none⟩ = some (.int .i64 line) ∧ w'.cell? ⟨w.heap.size + 1, 1, none⟩ = some (.int .i64 j) ∧ w'.cell? ⟨w.heap.size + 1, 2, none⟩ = some (.int .i64 cq) ∧ w'.cell? ⟨w.heap.size + 1, 3, none⟩ = some (.int .i64 cm_) ∧ w'.cell? ⟨w.heap.size + 1, 4, none⟩ = some (.int .u64 a) ∧ w'.cell? ⟨w.heap.size + 1, 5, none⟩ = some (.int .u64 p) ∧ w'.cell? ⟨w.heap.size + 1, 6, none⟩ = some (.bool found) ∧ w'.cell? ⟨w.heap.size + 1, 7, none⟩ = some (.int .i64 tail) ∧ w'.cell? ⟨w.heap.size + 1, 8, none⟩ = some (.int .i64 cyc))) (by kernel_rfl) ?_ (fun hHeld => ?_)
      · (try dsimp only); go_keep
      refine wpAnyH_take (i := 0) (v := ?_) rfl (by kernel_rfl) (by kernel_rfl) (by kernel_rfl) (fun _ _ _ h => h) (Or.inl ⟨by rfl, ?_⟩) (by assumption) ?_
      rotate_left
      · intro w hSw; (try dsimp only at hSw); go_simp; first | done | with_reducible rfl
      try simp only [Act.put, List.getElem_toArray, List.getElem_cons_succ, List.getElem_cons_zero, List.setIfInBounds_toArray, List.set_cons_zero, List.set_cons_succ]
      refine wpAnyH_take (i := 2) (v := ?_) rfl (by kernel_rfl) (by kernel_rfl) (by kernel_rfl) (fun _ _ _ h => h) (Or.inl ⟨by rfl, ?_⟩) (by assumption) ?_
      rotate_left
      · intro w hSw; (try dsimp only at hSw); go_simp; first | done | with_reducible rfl
      try simp only [Act.put, List.getElem_toArray, List.getElem_cons_succ, List.getElem_cons_zero, List.setIfInBounds_toArray, List.set_cons_zero, List.set_cons_succ]
      refine wpAnyH_take (i := 3) (v := ?_) rfl (by kernel_rfl) (by kernel_rfl) (by kernel_rfl) (fun _ _ _ h => h) (Or.inl ⟨by rfl, ?_⟩) (by assumption) ?_
      rotate_left
      · intro w hSw; (try dsimp only at hSw); go_simp; first | done | with_reducible rfl
      try simp only [Act.put, List.getElem_toArray, List.getElem_cons_succ, List.getElem_cons_zero, List.setIfInBounds_toArray, List.set_cons_zero, List.set_cons_succ]
      refine wpAnyH_take (i := 4) (v := ?_) rfl (by kernel_rfl) (by kernel_rfl) (by kernel_rfl) (fun _ _ _ h => h) (Or.inl ⟨by rfl, ?_⟩) (by assumption) ?_
      rotate_left
      · intro w hSw; (try dsimp only at hSw); go_simp; first | done | with_reducible rfl
      try simp only [Act.put, List.getElem_toArray, List.getElem_cons_succ, List.getElem_cons_zero, List.setIfInBounds_toArray, List.set_cons_zero, List.set_cons_succ]
      refine wpAnyH_ready (rs := [1]) (by kernel_rfl) (by simp) ?_
      refine AllReadyH.cons rfl (fun K hK => ?_) AllReadyH.nil
      go_simp
      go_at_call 68
      refine (HHo.out _).mono ?_
      rintro e w4 ⟨rfl, hF2⟩
      (have hB := hB.kept hF2 List.not_mem_nil)
      (have kB := hB.cell)
      (have hX := hX.kept hF2 List.not_mem_nil)
      (have kX := hX.cell)
      (have hFF := hFF.trans hF2)
      go_wp2_with fail
      refine hK.out _ _ ?_ (fun hHeld => ?_)
      · (try dsimp only); go_keep
      clear hK K
      try simp only [Act.put, List.getElem_toArray, List.getElem_cons_succ, List.getElem_cons_zero, List.setIfInBounds_toArray, List.set_cons_zero, List.set_cons_succ]
      refine wpAnyH_take (i := 5) (v := ?_) rfl (by kernel_rfl) (by kernel_rfl) (by kernel_rfl) (fun _ _ _ h => h) (Or.inl ⟨by rfl, ?_⟩) (by assumption) ?_
      rotate_left
      · intro w hSw; (try dsimp only at hSw); go_simp; first | done | with_reducible rfl
      try simp only [Act.put, List.getElem_toArray, List.getElem_cons_succ, List.getElem_cons_zero, List.setIfInBounds_toArray, List.set_cons_zero, List.set_cons_succ]
      refine wpAnyH_take (i := 6) (v := undef) rfl (by kernel_rfl) (by kernel_rfl) (by kernel_rfl) (fun _ _ _ h => h) (Or.inr ⟨by rfl, rfl⟩) (by assumption) ?_
      try simp only [Act.put, List.getElem_toArray, List.getElem_cons_succ, List.getElem_cons_zero, List.setIfInBounds_toArray, List.set_cons_zero, List.set_cons_succ]
      refine wpAnyH_take (i := 7) (v := undef) rfl (by kernel_rfl) (by kernel_rfl) (by kernel_rfl) (fun _ _ _ h => h) (Or.inr ⟨by rfl, rfl⟩) (by assumption) ?_
      try simp only [Act.put, List.getElem_toArray, List.getElem_cons_succ, List.getElem_cons_zero, List.setIfInBounds_toArray, List.set_cons_zero, List.set_cons_succ]
      refine wpAnyH_take (i := 8) (v := undef) rfl (by kernel_rfl) (by kernel_rfl) (by kernel_rfl) (fun _ _ _ h => h) (Or.inr ⟨by rfl, rfl⟩) (by assumption) ?_
      try simp only [Act.put, List.getElem_toArray, List.getElem_cons_succ, List.getElem_cons_zero, List.setIfInBounds_toArray, List.set_cons_zero, List.set_cons_succ]
      refine wpAnyH_take (i := 9) (v := ?_) rfl (by kernel_rfl) (by kernel_rfl) (by kernel_rfl) (fun _ _ _ h => h) (Or.inl ⟨by rfl, ?_⟩) (by assumption) ?_
      rotate_left
      · intro w hSw; (try dsimp only at hSw); go_simp; first | done | with_reducible rfl
      try simp only [Act.put, List.getElem_toArray, List.getElem_cons_succ, List.getElem_cons_zero, List.setIfInBounds_toArray, List.set_cons_zero, List.set_cons_succ]
      refine wpAnyH_take (i := 10) (v := ?_) rfl (by kernel_rfl) (by kernel_rfl) (by kernel_rfl) (fun _ _ _ h => h) (Or.inl ⟨by rfl, ?_⟩) (by assumption) ?_
      rotate_left
      · intro w hSw; (try dsimp only at hSw); go_simp; first | done | with_reducible rfl
      try simp only [Act.put, List.getElem_toArray, List.getElem_cons_succ, List.getElem_cons_zero, List.setIfInBounds_toArray, List.set_cons_zero, List.set_cons_succ]
      refine wpAnyH_done (by kernel_rfl) ?_ _
      clear HHo
      go_wp2_with (first | (go_at_call 62; refine (HBo _ hFF).out.mono ?_; rintro e w5 ⟨⟨h, ab, db, r, rd, cap, ext, rfl, HH, HR, q1, q2, q3, q4, q5, d1, d2, d3, d4, d5, d6⟩, hF2⟩; rw [← hs0.out] at HH HR; (have hXl := hX.lt); (have hX := hX.kept hF2 (by simp)); (have nX : w.heap.size + 1 ∉ [h, db] := by simp; omega); (have nR : r ∉ [h, db] := by simp; omega); (have nRd : rd ∉ [h, db] := by simp; omega); (have nH : h ∉ [r, rd] := by simp; omega); (have nAb : ab ∉ [r, rd] := by simp; omega); (have nDb : db ∉ [r, rd] := by simp; omega); (have sF := hFF.size); (have hSS := fun i (m : i ∈ [h, db]) (l : i < w.heap.size) => (show i ∈ ([] : List Nat) by simp at m; omega)); (have hST := fun i (m : i ∈ [r, rd]) (l : i < w.heap.size) => (show i ∈ ([] : List Nat) by simp at m; omega)); (have kX := hX.cell); (have hFF := hFF.trans hF2); clear d1 d2 d3 d4 d5 d6 q1 q2 q3 q4 q5 sF) | (go_at_call 63; refine (HFa.out _).mono ?_; rintro e w5 ⟨rfl, hF2⟩; (have HH := HH.kept0 hF2); (have HR := HR.kept0 hF2); (have hX := hX.kept hF2 (by simp)); (have kX := hX.cell); (have hFF := hFF.trans hF2)) | (go_at_call 69; refine (HN.out _).mono ?_; rintro e w6 ⟨rfl, hF2⟩; (have hFF := hFF.trans hF2)))
      go_ret
      exact ⟨rfl, hFF.alloc _⟩
  · have HBo := fun W (f : Fr [] w W) => hid (both_no (w := W) c _ l (hv.kept0 f) hbo hl)
    clear hv hbo hl hwf hx
    obtain ⟨line, j, cq, cm_, a, p, found, tail, cyc⟩ := x
    unfold ColV.val
    obtain ⟨cc, cm, cr, cg⟩ := c
    simp only at g1
    go_enter Try.func12, Try.ntmps12
    have hX := Blk.new (w.alloc (.cells #[.int .i64 cc, .int .i64 cm, .int .i64 cr, .int .i64 cg] 45)) [.int .i64 line, .int .i64 j, .int .i64 cq, .int .i64 cm_, .int .u64 a, .int .u64 p, .bool found, .int .i64 tail, .int .i64 cyc] 86
    have hB := (Blk.new w [.int .i64 cc, .int .i64 cm, .int .i64 cr, .int .i64 cg] 45).alloc (.cells #[.int .i64 line, .int .i64 j, .int .i64 cq, .int .i64 cm_, .int .u64 a, .int .u64 p, .bool found, .int .i64 tail, .int .i64 cyc] 86)
    simp only [World.size_alloc] at hX
    have hFF := ((Fr.refl [] w).alloc (.cells #[.int .i64 cc, .int .i64 cm, .int .i64 cr, .int .i64 cg] 45)).alloc (.cells #[.int .i64 line, .int .i64 j, .int .i64 cq, .int .i64 cm_, .int .u64 a, .int .u64 p, .bool found, .int .i64 tail, .int .i64 cyc] 86)
    have kX := hX.cell
    have kB := hB.cell
    go_wp2_with (first | (go_at_call 67; refine (awake17_any _).mono ?_; rintro e w2 ⟨rfl, hF2⟩; (have hB := hB.kept hF2 (by simp)); (have kB := hB.cell); (have hX := hX.kept hF2 (by simp)); (have kX := hX.cell); (have hFF := hFF.trans hF2)))
    have hX := hX.drew
    have hB := hB.drew
    have hFF := hFF.drew
    have kX := hX.cell
    have kB := hB.cell
    refine wp_region_held_drew (S := (fun w' => w'.cell? ⟨w.heap.size + 1, 0, none⟩ = some (.int .i64 line) ∧ w'.cell? ⟨w.heap.size + 1, 1, none⟩ = some (.int .i64 j) ∧ w'.cell? ⟨w.heap.size + 1, 2, none⟩ = some (.int .i64 cq) ∧ w'.cell? ⟨w.heap.size + 1, 3, none⟩ = some (.int .i64 cm_) ∧ w'.cell? ⟨w.heap.size + 1, 4, none⟩ = some (.int .u64 a) ∧ w'.cell? ⟨w.heap.size + 1, 5, none⟩ = some (.int .u64 p) ∧ w'.cell? ⟨w.heap.size + 1, 6, none⟩ = some (.bool found) ∧ w'.cell? ⟨w.heap.size + 1, 7, none⟩ = some (.int .i64 tail) ∧ w'.cell? ⟨w.heap.size + 1, 8, none⟩ = some (.int .i64 cyc))) (by kernel_rfl) ?_ (fun hHeld => ?_)
    · (try dsimp only); go_keep
    refine wpAnyH_take (i := 0) (v := ?_) rfl (by kernel_rfl) (by kernel_rfl) (by kernel_rfl) (fun _ _ _ h => h) (Or.inl ⟨by rfl, ?_⟩) (by assumption) ?_
    rotate_left
    · intro w hSw; (try dsimp only at hSw); go_simp; first | done | with_reducible rfl
    try simp only [Act.put, List.getElem_toArray, List.getElem_cons_succ, List.getElem_cons_zero, List.setIfInBounds_toArray, List.set_cons_zero, List.set_cons_succ]
    refine wpAnyH_take (i := 2) (v := ?_) rfl (by kernel_rfl) (by kernel_rfl) (by kernel_rfl) (fun _ _ _ h => h) (Or.inl ⟨by rfl, ?_⟩) (by assumption) ?_
    rotate_left
    · intro w hSw; (try dsimp only at hSw); go_simp; first | done | with_reducible rfl
    try simp only [Act.put, List.getElem_toArray, List.getElem_cons_succ, List.getElem_cons_zero, List.setIfInBounds_toArray, List.set_cons_zero, List.set_cons_succ]
    refine wpAnyH_take (i := 3) (v := ?_) rfl (by kernel_rfl) (by kernel_rfl) (by kernel_rfl) (fun _ _ _ h => h) (Or.inl ⟨by rfl, ?_⟩) (by assumption) ?_
    rotate_left
    · intro w hSw; (try dsimp only at hSw); go_simp; first | done | with_reducible rfl
    try simp only [Act.put, List.getElem_toArray, List.getElem_cons_succ, List.getElem_cons_zero, List.setIfInBounds_toArray, List.set_cons_zero, List.set_cons_succ]
    refine wpAnyH_take (i := 4) (v := ?_) rfl (by kernel_rfl) (by kernel_rfl) (by kernel_rfl) (fun _ _ _ h => h) (Or.inl ⟨by rfl, ?_⟩) (by assumption) ?_
    rotate_left
    · intro w hSw; (try dsimp only at hSw); go_simp; first | done | with_reducible rfl
    try simp only [Act.put, List.getElem_toArray, List.getElem_cons_succ, List.getElem_cons_zero, List.setIfInBounds_toArray, List.set_cons_zero, List.set_cons_succ]
    refine wpAnyH_ready (rs := [1]) (by kernel_rfl) (by simp) ?_
    refine AllReadyH.cons rfl (fun K hK => ?_) AllReadyH.nil
    go_simp
    go_at_call 68
    refine (HHo.out _).mono ?_
    rintro e w4 ⟨rfl, hF2⟩
    (have hB := hB.kept hF2 List.not_mem_nil)
    (have kB := hB.cell)
    (have hX := hX.kept hF2 List.not_mem_nil)
    (have kX := hX.cell)
    (have hFF := hFF.trans hF2)
    go_wp2_with fail
    refine hK.out _ _ ?_ (fun hHeld => ?_)
    · (try dsimp only); go_keep
    clear hK K
    try simp only [Act.put, List.getElem_toArray, List.getElem_cons_succ, List.getElem_cons_zero, List.setIfInBounds_toArray, List.set_cons_zero, List.set_cons_succ]
    refine wpAnyH_take (i := 5) (v := ?_) rfl (by kernel_rfl) (by kernel_rfl) (by kernel_rfl) (fun _ _ _ h => h) (Or.inl ⟨by rfl, ?_⟩) (by assumption) ?_
    rotate_left
    · intro w hSw; (try dsimp only at hSw); go_simp; first | done | with_reducible rfl
    try simp only [Act.put, List.getElem_toArray, List.getElem_cons_succ, List.getElem_cons_zero, List.setIfInBounds_toArray, List.set_cons_zero, List.set_cons_succ]
    refine wpAnyH_take (i := 6) (v := undef) rfl (by kernel_rfl) (by kernel_rfl) (by kernel_rfl) (fun _ _ _ h => h) (Or.inr ⟨by rfl, rfl⟩) (by assumption) ?_
    try simp only [Act.put, List.getElem_toArray, List.getElem_cons_succ, List.getElem_cons_zero, List.setIfInBounds_toArray, List.set_cons_zero, List.set_cons_succ]
    refine wpAnyH_take (i := 7) (v := undef) rfl (by kernel_rfl) (by kernel_rfl) (by kernel_rfl) (fun _ _ _ h => h) (Or.inr ⟨by rfl, rfl⟩) (by assumption) ?_
    try simp only [Act.put, List.getElem_toArray, List.getElem_cons_succ, List.getElem_cons_zero, List.setIfInBounds_toArray, List.set_cons_zero, List.set_cons_succ]
    refine wpAnyH_take (i := 8) (v := undef) rfl (by kernel_rfl) (by kernel_rfl) (by kernel_rfl) (fun _ _ _ h => h) (Or.inr ⟨by rfl, rfl⟩) (by assumption) ?_
    try simp only [Act.put, List.getElem_toArray, List.getElem_cons_succ, List.getElem_cons_zero, List.setIfInBounds_toArray, List.set_cons_zero, List.set_cons_succ]
    refine wpAnyH_take (i := 9) (v := ?_) rfl (by kernel_rfl) (by kernel_rfl) (by kernel_rfl) (fun _ _ _ h => h) (Or.inl ⟨by rfl, ?_⟩) (by assumption) ?_
    rotate_left
    · intro w hSw; (try dsimp only at hSw); go_simp; first | done | with_reducible rfl
    try simp only [Act.put, List.getElem_toArray, List.getElem_cons_succ, List.getElem_cons_zero, List.setIfInBounds_toArray, List.set_cons_zero, List.set_cons_succ]
    refine wpAnyH_take (i := 10) (v := ?_) rfl (by kernel_rfl) (by kernel_rfl) (by kernel_rfl) (fun _ _ _ h => h) (Or.inl ⟨by rfl, ?_⟩) (by assumption) ?_
    rotate_left
    · intro w hSw; (try dsimp only at hSw); go_simp; first | done | with_reducible rfl
    try simp only [Act.put, List.getElem_toArray, List.getElem_cons_succ, List.getElem_cons_zero, List.setIfInBounds_toArray, List.set_cons_zero, List.set_cons_succ]
    refine wpAnyH_done (by kernel_rfl) ?_ _
    clear HHo
    go_wp2_with (first | (go_at_call 62; refine (HBo _ hFF).out.mono ?_; rintro e w5 ⟨rfl, hF2⟩; (have hB := hB.kept hF2 (by simp)); (have kB := hB.cell); (have hX := hX.kept hF2 (by simp)); (have kX := hX.cell); (have hFF := hFF.trans hF2)) | (go_at_call 69; refine (HN.out _).mono ?_; rintro e w6 ⟨rfl, hF2⟩; (have hFF := hFF.trans hF2)))
    go_ret
    exact ⟨rfl, hFF.alloc _⟩

set_option maxRecDepth 100000 in
set_option maxHeartbeats 4000000 in
theorem barSteps_any_in (c : Cfg) (v : Value) (l : List Int) (x : ColV) (g : 12 ≤ x.line ∧ x.line ≤ 15) (w : World) (hx : x.Wf) (hv : RdS w v l.length (u64s l)) (hl : l.length ≤ 35184372088832) (hwf : ∀ y, y ∈ l → 0 ≤ y ∧ y < 18446744073709551616) :
    Calls Try.prog 12 #[c.val, v, x.val] w fun e w' => e = .returned (.bool true) ∧ Fr [] w w' := by
  obtain ⟨ua, uc, rfl, hu⟩ := hv.elim
  clear hu
  have g1 : decide (12 ≤ x.line) = true := by simpa using g.1
  have g2 : decide (x.line ≤ 15) = true := by simpa using g.2
  have HHo := hid (fun W => shut_in x.line x.j x.c x.m x.a x.p x.tail x.cyc x.found g1 g2 W)
  clear g
  have HN := hid (fun W => banil W x.line x.j x.c x.m x.a x.p x.tail x.cyc x.found)
  by_cases hbo : bothOk c l.length
  · have HBo := fun W (f : Fr [] w W) => hid (both_ok (w := W) hbo.1 hbo.2.1 _ l (hv.kept0 f) hbo.2.2 hwf)
    clear hv hbo hl hwf
    obtain ⟨s0, hs0⟩ : ∃ s : HS, s = ⟨c, l, Acc.z⟩ := ⟨_, rfl⟩
    replace hs0 := hid hs0
    by_cases hnear : x.Near
    · have HX := fun {W : World} {h ab db : Nat} (H : HAt W h ab db s0) => ba_any H x hx hnear
      have HY := fun {W : World} {r rd cap : Nat} {ext : List Value} (H : RAt W r rd cap ext s0) => rba_any H x hx hnear
      have HFa := hid (fun W => far_no x hnear W)
      obtain ⟨res, hres⟩ : ∃ r, r = barM s0 x := ⟨_, rfl⟩
      rw [← hres] at HX HY
      clear hres hnear hx HN
      obtain ⟨⟨line2, j2, cq2, cm_2, a2, p2, found2, tail2, cyc2⟩, fl0, fl1, s2⟩ := res
      simp only [ColV.val] at HX HY
      have HAl := fun {W : World} {h ab db r rd cap : Nat} {ext : List Value} (H : HAt W h ab db s2) (R : RAt W r rd cap ext s2) => hid (by have := alike_any H R; simp only [decide_true, Bool.and_self] at this; exact this)
      obtain ⟨line, j, cq, cm_, a, p, found, tail, cyc⟩ := x
      unfold ColV.val
      obtain ⟨cc, cm, cr, cg⟩ := c
      simp only at g1 g2
      go_enter Try.func12, Try.ntmps12
      have hX := Blk.new (w.alloc (.cells #[.int .i64 cc, .int .i64 cm, .int .i64 cr, .int .i64 cg] 45)) [.int .i64 line, .int .i64 j, .int .i64 cq, .int .i64 cm_, .int .u64 a, .int .u64 p, .bool found, .int .i64 tail, .int .i64 cyc] 86
      have hB := (Blk.new w [.int .i64 cc, .int .i64 cm, .int .i64 cr, .int .i64 cg] 45).alloc (.cells #[.int .i64 line, .int .i64 j, .int .i64 cq, .int .i64 cm_, .int .u64 a, .int .u64 p, .bool found, .int .i64 tail, .int .i64 cyc] 86)
      simp only [World.size_alloc] at hX
      have hFF := ((Fr.refl [] w).alloc (.cells #[.int .i64 cc, .int .i64 cm, .int .i64 cr, .int .i64 cg] 45)).alloc (.cells #[.int .i64 line, .int .i64 j, .int .i64 cq, .int .i64 cm_, .int .u64 a, .int .u64 p, .bool found, .int .i64 tail, .int .i64 cyc] 86)
      have kX := hX.cell
      have kB := hB.cell
      go_wp2_with (first | (go_at_call 67; refine (awake17_any _).mono ?_; rintro e w2 ⟨rfl, hF2⟩; (have hB := hB.kept hF2 (by simp)); (have kB := hB.cell); (have hX := hX.kept hF2 (by simp)); (have kX := hX.cell); (have hFF := hFF.trans hF2)))
      have hX := hX.drew
      have hB := hB.drew
      have hFF := hFF.drew
      have kX := hX.cell
      have kB := hB.cell
      refine wp_region_held_drew (S := (fun w' => w'.cell? ⟨w.heap.size + 1, 0, none⟩ = some (.int .i64 line) ∧ w'.cell? ⟨w.heap.size + 1, 1, none⟩ = some (.int .i64 j) ∧ w'.cell? ⟨w.heap.size + 1, 2, none⟩ = some (.int .i64 cq) ∧ w'.cell? ⟨w.heap.size + 1, 3, none⟩ = some (.int .i64 cm_) ∧ w'.cell? ⟨w.heap.size + 1, 4, none⟩ = some (.int .u64 a) ∧ w'.cell? ⟨w.heap.size + 1, 5, none⟩ = some (.int .u64 p) ∧ w'.cell? ⟨w.heap.size + 1, 6, none⟩ = some (.bool found) ∧ w'.cell? ⟨w.heap.size + 1, 7, none⟩ = some (.int .i64 tail) ∧ w'.cell? ⟨w.heap.size + 1, 8, none⟩ = some (.int .i64 cyc))) (by kernel_rfl) ?_ (fun hHeld => ?_)
      · (try dsimp only); go_keep
      refine wpAnyH_take (i := 0) (v := ?_) rfl (by kernel_rfl) (by kernel_rfl) (by kernel_rfl) (fun _ _ _ h => h) (Or.inl ⟨by rfl, ?_⟩) (by assumption) ?_
      rotate_left
      · intro w hSw; (try dsimp only at hSw); go_simp; first | done | with_reducible rfl
      try simp only [Act.put, List.getElem_toArray, List.getElem_cons_succ, List.getElem_cons_zero, List.setIfInBounds_toArray, List.set_cons_zero, List.set_cons_succ]
      refine wpAnyH_take (i := 2) (v := ?_) rfl (by kernel_rfl) (by kernel_rfl) (by kernel_rfl) (fun _ _ _ h => h) (Or.inl ⟨by rfl, ?_⟩) (by assumption) ?_
      rotate_left
      · intro w hSw; (try dsimp only at hSw); go_simp; first | done | with_reducible rfl
      try simp only [Act.put, List.getElem_toArray, List.getElem_cons_succ, List.getElem_cons_zero, List.setIfInBounds_toArray, List.set_cons_zero, List.set_cons_succ]
      refine wpAnyH_take (i := 3) (v := ?_) rfl (by kernel_rfl) (by kernel_rfl) (by kernel_rfl) (fun _ _ _ h => h) (Or.inl ⟨by rfl, ?_⟩) (by assumption) ?_
      rotate_left
      · intro w hSw; (try dsimp only at hSw); go_simp; first | done | with_reducible rfl
      try simp only [Act.put, List.getElem_toArray, List.getElem_cons_succ, List.getElem_cons_zero, List.setIfInBounds_toArray, List.set_cons_zero, List.set_cons_succ]
      refine wpAnyH_take (i := 4) (v := ?_) rfl (by kernel_rfl) (by kernel_rfl) (by kernel_rfl) (fun _ _ _ h => h) (Or.inl ⟨by rfl, ?_⟩) (by assumption) ?_
      rotate_left
      · intro w hSw; (try dsimp only at hSw); go_simp; first | done | with_reducible rfl
      try simp only [Act.put, List.getElem_toArray, List.getElem_cons_succ, List.getElem_cons_zero, List.setIfInBounds_toArray, List.set_cons_zero, List.set_cons_succ]
      refine wpAnyH_ready (rs := [1]) (by kernel_rfl) (by simp) ?_
      refine AllReadyH.cons rfl (fun K hK => ?_) AllReadyH.nil
      go_simp
      go_at_call 68
      refine (HHo.out _).mono ?_
      rintro e w4 ⟨rfl, hF2⟩
      (have hB := hB.kept hF2 List.not_mem_nil)
      (have kB := hB.cell)
      (have hX := hX.kept hF2 List.not_mem_nil)
      (have kX := hX.cell)
      (have hFF := hFF.trans hF2)
      go_wp2_with fail
      refine hK.out _ _ ?_ (fun hHeld => ?_)
      · (try dsimp only); go_keep
      clear hK K
      try simp only [Act.put, List.getElem_toArray, List.getElem_cons_succ, List.getElem_cons_zero, List.setIfInBounds_toArray, List.set_cons_zero, List.set_cons_succ]
      refine wpAnyH_take (i := 5) (v := ?_) rfl (by kernel_rfl) (by kernel_rfl) (by kernel_rfl) (fun _ _ _ h => h) (Or.inl ⟨by rfl, ?_⟩) (by assumption) ?_
      rotate_left
      · intro w hSw; (try dsimp only at hSw); go_simp; first | done | with_reducible rfl
      try simp only [Act.put, List.getElem_toArray, List.getElem_cons_succ, List.getElem_cons_zero, List.setIfInBounds_toArray, List.set_cons_zero, List.set_cons_succ]
      refine wpAnyH_take (i := 6) (v := ?_) rfl (by kernel_rfl) (by kernel_rfl) (by kernel_rfl) (fun _ _ _ h => h) (Or.inl ⟨by rfl, ?_⟩) (by assumption) ?_
      rotate_left
      · intro w hSw; (try dsimp only at hSw); go_simp; first | done | with_reducible rfl
      try simp only [Act.put, List.getElem_toArray, List.getElem_cons_succ, List.getElem_cons_zero, List.setIfInBounds_toArray, List.set_cons_zero, List.set_cons_succ]
      refine wpAnyH_take (i := 7) (v := ?_) rfl (by kernel_rfl) (by kernel_rfl) (by kernel_rfl) (fun _ _ _ h => h) (Or.inl ⟨by rfl, ?_⟩) (by assumption) ?_
      rotate_left
      · intro w hSw; (try dsimp only at hSw); go_simp; first | done | with_reducible rfl
      try simp only [Act.put, List.getElem_toArray, List.getElem_cons_succ, List.getElem_cons_zero, List.setIfInBounds_toArray, List.set_cons_zero, List.set_cons_succ]
      refine wpAnyH_take (i := 8) (v := ?_) rfl (by kernel_rfl) (by kernel_rfl) (by kernel_rfl) (fun _ _ _ h => h) (Or.inl ⟨by rfl, ?_⟩) (by assumption) ?_
      rotate_left
      · intro w hSw; (try dsimp only at hSw); go_simp; first | done | with_reducible rfl
      try simp only [Act.put, List.getElem_toArray, List.getElem_cons_succ, List.getElem_cons_zero, List.setIfInBounds_toArray, List.set_cons_zero, List.set_cons_succ]
      refine wpAnyH_take (i := 9) (v := ?_) rfl (by kernel_rfl) (by kernel_rfl) (by kernel_rfl) (fun _ _ _ h => h) (Or.inl ⟨by rfl, ?_⟩) (by assumption) ?_
      rotate_left
      · intro w hSw; (try dsimp only at hSw); go_simp; first | done | with_reducible rfl
      try simp only [Act.put, List.getElem_toArray, List.getElem_cons_succ, List.getElem_cons_zero, List.setIfInBounds_toArray, List.set_cons_zero, List.set_cons_succ]
      refine wpAnyH_take (i := 10) (v := ?_) rfl (by kernel_rfl) (by kernel_rfl) (by kernel_rfl) (fun _ _ _ h => h) (Or.inl ⟨by rfl, ?_⟩) (by assumption) ?_
      rotate_left
      · intro w hSw; (try dsimp only at hSw); go_simp; first | done | with_reducible rfl
      try simp only [Act.put, List.getElem_toArray, List.getElem_cons_succ, List.getElem_cons_zero, List.setIfInBounds_toArray, List.set_cons_zero, List.set_cons_succ]
      refine wpAnyH_done (by kernel_rfl) ?_ _
      clear HHo
      go_wp2_with (first | (go_at_call 62; refine (HBo _ hFF).out.mono ?_; rintro e w5 ⟨⟨h, ab, db, r, rd, cap, ext, rfl, HH, HR, q1, q2, q3, q4, q5, d1, d2, d3, d4, d5, d6⟩, hF2⟩; rw [← hs0.out] at HH HR; (have hXl := hX.lt); (have hX := hX.kept hF2 (by simp)); (have nX : w.heap.size + 1 ∉ [h, db] := by simp; omega); (have nR : r ∉ [h, db] := by simp; omega); (have nRd : rd ∉ [h, db] := by simp; omega); (have nH : h ∉ [r, rd] := by simp; omega); (have nAb : ab ∉ [r, rd] := by simp; omega); (have nDb : db ∉ [r, rd] := by simp; omega); (have sF := hFF.size); (have hSS := fun i (m : i ∈ [h, db]) (l : i < w.heap.size) => (show i ∈ ([] : List Nat) by simp at m; omega)); (have hST := fun i (m : i ∈ [r, rd]) (l : i < w.heap.size) => (show i ∈ ([] : List Nat) by simp at m; omega)); (have kX := hX.cell); (have hFF := hFF.trans hF2); clear d1 d2 d3 d4 d5 d6 q1 q2 q3 q4 q5 sF) | (go_at_call 63; refine (HFa.out _).mono ?_; rintro e w5 ⟨rfl, hF2⟩; (have HH := HH.kept0 hF2); (have HR := HR.kept0 hF2); (have hX := hX.kept hF2 (by simp)); (have kX := hX.cell); (have hFF := hFF.trans hF2)) | (go_at_call 69; refine (HX HH).mono ?_; rintro e w6 ⟨rfl, HH2, hF2⟩; (have HR := HR.kept hF2 nR nRd); (have hX := hX.kept hF2 nX); (have kX := (hX.alloc (.cells #[.int .i64 line2, .int .i64 j2, .int .i64 cq2, .int .i64 cm_2, .int .u64 a2, .int .u64 p2, .bool found2, .int .i64 tail2, .int .i64 cyc2] 86)).cell); (have hFF := hFF.trans_new hF2 hSS)) | (go_at_call 70; refine (HY (HR.alloc _)).mono ?_; rintro e w7 ⟨rfl, HR2, hF2⟩; (have HH2 := (HH2.alloc _).kept hF2 nH nAb nDb); (have nA : w6.heap.size ∉ [r, rd] := by have := HR.blk.lt; have := HR.ar.dat.lt; simp; omega); (have hA := (Blk.new w6 [.int .i64 line2, .int .i64 j2, .int .i64 cq2, .int .i64 cm_2, .int .u64 a2, .int .u64 p2, .bool found2, .int .i64 tail2, .int .i64 cyc2] 86).kept hF2 nA); (have kA := (hA.alloc (.cells #[.int .i64 line2, .int .i64 j2, .int .i64 cq2, .int .i64 cm_2, .int .u64 a2, .int .u64 p2, .bool found2, .int .i64 tail2, .int .i64 cyc2] 86)).cell); (have hFF := (hFF.alloc _).trans_new hF2 hST)) | (go_at_call 66; refine (HAl (HH2.alloc _) (HR2.alloc _)).out.mono ?_; rintro e w8 ⟨rfl, hF2⟩; (have hFF := (hFF.alloc _).trans hF2)))
      go_ret
      exact ⟨rfl, hFF⟩
    · have HFa := hid (fun W => far_yes x hnear W)
      clear hx hnear
      obtain ⟨line, j, cq, cm_, a, p, found, tail, cyc⟩ := x
      unfold ColV.val
      obtain ⟨cc, cm, cr, cg⟩ := c
      simp only at g1 g2
      go_enter Try.func12, Try.ntmps12
      have hX := Blk.new (w.alloc (.cells #[.int .i64 cc, .int .i64 cm, .int .i64 cr, .int .i64 cg] 45)) [.int .i64 line, .int .i64 j, .int .i64 cq, .int .i64 cm_, .int .u64 a, .int .u64 p, .bool found, .int .i64 tail, .int .i64 cyc] 86
      have hB := (Blk.new w [.int .i64 cc, .int .i64 cm, .int .i64 cr, .int .i64 cg] 45).alloc (.cells #[.int .i64 line, .int .i64 j, .int .i64 cq, .int .i64 cm_, .int .u64 a, .int .u64 p, .bool found, .int .i64 tail, .int .i64 cyc] 86)
      simp only [World.size_alloc] at hX
      have hFF := ((Fr.refl [] w).alloc (.cells #[.int .i64 cc, .int .i64 cm, .int .i64 cr, .int .i64 cg] 45)).alloc (.cells #[.int .i64 line, .int .i64 j, .int .i64 cq, .int .i64 cm_, .int .u64 a, .int .u64 p, .bool found, .int .i64 tail, .int .i64 cyc] 86)
      have kX := hX.cell
      have kB := hB.cell
      go_wp2_with (first | (go_at_call 67; refine (awake17_any _).mono ?_; rintro e w2 ⟨rfl, hF2⟩; (have hB := hB.kept hF2 (by simp)); (have kB := hB.cell); (have hX := hX.kept hF2 (by simp)); (have kX := hX.cell); (have hFF := hFF.trans hF2)))
      have hX := hX.drew
      have hB := hB.drew
      have hFF := hFF.drew
      have kX := hX.cell
      have kB := hB.cell
      refine wp_region_held_drew (S := (fun w' => w'.cell? ⟨w.heap.size + 1, 0, none⟩ = some (.int .i64 line) ∧ w'.cell? ⟨w.heap.size + 1, 1, none⟩ = some (.int .i64 j) ∧ w'.cell? ⟨w.heap.size + 1, 2, none⟩ = some (.int .i64 cq) ∧ w'.cell? ⟨w.heap.size + 1, 3, none⟩ = some (.int .i64 cm_) ∧ w'.cell? ⟨w.heap.size + 1, 4, none⟩ = some (.int .u64 a) ∧ w'.cell? ⟨w.heap.size + 1, 5, none⟩ = some (.int .u64 p) ∧ w'.cell? ⟨w.heap.size + 1, 6, none⟩ = some (.bool found) ∧ w'.cell? ⟨w.heap.size + 1, 7, none⟩ = some (.int .i64 tail) ∧ w'.cell? ⟨w.heap.size + 1, 8, none⟩ = some (.int .i64 cyc))) (by kernel_rfl) ?_ (fun hHeld => ?_)
      · (try dsimp only); go_keep
      refine wpAnyH_take (i := 0) (v := ?_) rfl (by kernel_rfl) (by kernel_rfl) (by kernel_rfl) (fun _ _ _ h => h) (Or.inl ⟨by rfl, ?_⟩) (by assumption) ?_
      rotate_left
      · intro w hSw; (try dsimp only at hSw); go_simp; first | done | with_reducible rfl
      try simp only [Act.put, List.getElem_toArray, List.getElem_cons_succ, List.getElem_cons_zero, List.setIfInBounds_toArray, List.set_cons_zero, List.set_cons_succ]
      refine wpAnyH_take (i := 2) (v := ?_) rfl (by kernel_rfl) (by kernel_rfl) (by kernel_rfl) (fun _ _ _ h => h) (Or.inl ⟨by rfl, ?_⟩) (by assumption) ?_
      rotate_left
      · intro w hSw; (try dsimp only at hSw); go_simp; first | done | with_reducible rfl
      try simp only [Act.put, List.getElem_toArray, List.getElem_cons_succ, List.getElem_cons_zero, List.setIfInBounds_toArray, List.set_cons_zero, List.set_cons_succ]
      refine wpAnyH_take (i := 3) (v := ?_) rfl (by kernel_rfl) (by kernel_rfl) (by kernel_rfl) (fun _ _ _ h => h) (Or.inl ⟨by rfl, ?_⟩) (by assumption) ?_
      rotate_left
      · intro w hSw; (try dsimp only at hSw); go_simp; first | done | with_reducible rfl
      try simp only [Act.put, List.getElem_toArray, List.getElem_cons_succ, List.getElem_cons_zero, List.setIfInBounds_toArray, List.set_cons_zero, List.set_cons_succ]
      refine wpAnyH_take (i := 4) (v := ?_) rfl (by kernel_rfl) (by kernel_rfl) (by kernel_rfl) (fun _ _ _ h => h) (Or.inl ⟨by rfl, ?_⟩) (by assumption) ?_
      rotate_left
      · intro w hSw; (try dsimp only at hSw); go_simp; first | done | with_reducible rfl
      try simp only [Act.put, List.getElem_toArray, List.getElem_cons_succ, List.getElem_cons_zero, List.setIfInBounds_toArray, List.set_cons_zero, List.set_cons_succ]
      refine wpAnyH_ready (rs := [1]) (by kernel_rfl) (by simp) ?_
      refine AllReadyH.cons rfl (fun K hK => ?_) AllReadyH.nil
      go_simp
      go_at_call 68
      refine (HHo.out _).mono ?_
      rintro e w4 ⟨rfl, hF2⟩
      (have hB := hB.kept hF2 List.not_mem_nil)
      (have kB := hB.cell)
      (have hX := hX.kept hF2 List.not_mem_nil)
      (have kX := hX.cell)
      (have hFF := hFF.trans hF2)
      go_wp2_with fail
      refine hK.out _ _ ?_ (fun hHeld => ?_)
      · (try dsimp only); go_keep
      clear hK K
      try simp only [Act.put, List.getElem_toArray, List.getElem_cons_succ, List.getElem_cons_zero, List.setIfInBounds_toArray, List.set_cons_zero, List.set_cons_succ]
      refine wpAnyH_take (i := 5) (v := ?_) rfl (by kernel_rfl) (by kernel_rfl) (by kernel_rfl) (fun _ _ _ h => h) (Or.inl ⟨by rfl, ?_⟩) (by assumption) ?_
      rotate_left
      · intro w hSw; (try dsimp only at hSw); go_simp; first | done | with_reducible rfl
      try simp only [Act.put, List.getElem_toArray, List.getElem_cons_succ, List.getElem_cons_zero, List.setIfInBounds_toArray, List.set_cons_zero, List.set_cons_succ]
      refine wpAnyH_take (i := 6) (v := ?_) rfl (by kernel_rfl) (by kernel_rfl) (by kernel_rfl) (fun _ _ _ h => h) (Or.inl ⟨by rfl, ?_⟩) (by assumption) ?_
      rotate_left
      · intro w hSw; (try dsimp only at hSw); go_simp; first | done | with_reducible rfl
      try simp only [Act.put, List.getElem_toArray, List.getElem_cons_succ, List.getElem_cons_zero, List.setIfInBounds_toArray, List.set_cons_zero, List.set_cons_succ]
      refine wpAnyH_take (i := 7) (v := ?_) rfl (by kernel_rfl) (by kernel_rfl) (by kernel_rfl) (fun _ _ _ h => h) (Or.inl ⟨by rfl, ?_⟩) (by assumption) ?_
      rotate_left
      · intro w hSw; (try dsimp only at hSw); go_simp; first | done | with_reducible rfl
      try simp only [Act.put, List.getElem_toArray, List.getElem_cons_succ, List.getElem_cons_zero, List.setIfInBounds_toArray, List.set_cons_zero, List.set_cons_succ]
      refine wpAnyH_take (i := 8) (v := ?_) rfl (by kernel_rfl) (by kernel_rfl) (by kernel_rfl) (fun _ _ _ h => h) (Or.inl ⟨by rfl, ?_⟩) (by assumption) ?_
      rotate_left
      · intro w hSw; (try dsimp only at hSw); go_simp; first | done | with_reducible rfl
      try simp only [Act.put, List.getElem_toArray, List.getElem_cons_succ, List.getElem_cons_zero, List.setIfInBounds_toArray, List.set_cons_zero, List.set_cons_succ]
      refine wpAnyH_take (i := 9) (v := ?_) rfl (by kernel_rfl) (by kernel_rfl) (by kernel_rfl) (fun _ _ _ h => h) (Or.inl ⟨by rfl, ?_⟩) (by assumption) ?_
      rotate_left
      · intro w hSw; (try dsimp only at hSw); go_simp; first | done | with_reducible rfl
      try simp only [Act.put, List.getElem_toArray, List.getElem_cons_succ, List.getElem_cons_zero, List.setIfInBounds_toArray, List.set_cons_zero, List.set_cons_succ]
      refine wpAnyH_take (i := 10) (v := ?_) rfl (by kernel_rfl) (by kernel_rfl) (by kernel_rfl) (fun _ _ _ h => h) (Or.inl ⟨by rfl, ?_⟩) (by assumption) ?_
      rotate_left
      · intro w hSw; (try dsimp only at hSw); go_simp; first | done | with_reducible rfl
      try simp only [Act.put, List.getElem_toArray, List.getElem_cons_succ, List.getElem_cons_zero, List.setIfInBounds_toArray, List.set_cons_zero, List.set_cons_succ]
      refine wpAnyH_done (by kernel_rfl) ?_ _
      clear HHo
      go_wp2_with (first | (go_at_call 62; refine (HBo _ hFF).out.mono ?_; rintro e w5 ⟨⟨h, ab, db, r, rd, cap, ext, rfl, HH, HR, q1, q2, q3, q4, q5, d1, d2, d3, d4, d5, d6⟩, hF2⟩; rw [← hs0.out] at HH HR; (have hXl := hX.lt); (have hX := hX.kept hF2 (by simp)); (have nX : w.heap.size + 1 ∉ [h, db] := by simp; omega); (have nR : r ∉ [h, db] := by simp; omega); (have nRd : rd ∉ [h, db] := by simp; omega); (have nH : h ∉ [r, rd] := by simp; omega); (have nAb : ab ∉ [r, rd] := by simp; omega); (have nDb : db ∉ [r, rd] := by simp; omega); (have sF := hFF.size); (have hSS := fun i (m : i ∈ [h, db]) (l : i < w.heap.size) => (show i ∈ ([] : List Nat) by simp at m; omega)); (have hST := fun i (m : i ∈ [r, rd]) (l : i < w.heap.size) => (show i ∈ ([] : List Nat) by simp at m; omega)); (have kX := hX.cell); (have hFF := hFF.trans hF2); clear d1 d2 d3 d4 d5 d6 q1 q2 q3 q4 q5 sF) | (go_at_call 63; refine (HFa.out _).mono ?_; rintro e w5 ⟨rfl, hF2⟩; (have HH := HH.kept0 hF2); (have HR := HR.kept0 hF2); (have hX := hX.kept hF2 (by simp)); (have kX := hX.cell); (have hFF := hFF.trans hF2)) | (go_at_call 69; refine (HN.out _).mono ?_; rintro e w6 ⟨rfl, hF2⟩; (have hFF := hFF.trans hF2)))
      go_ret
      exact ⟨rfl, hFF.alloc _⟩
  · have HBo := fun W (f : Fr [] w W) => hid (both_no (w := W) c _ l (hv.kept0 f) hbo hl)
    clear hv hbo hl hwf hx
    obtain ⟨line, j, cq, cm_, a, p, found, tail, cyc⟩ := x
    unfold ColV.val
    obtain ⟨cc, cm, cr, cg⟩ := c
    simp only at g1 g2
    go_enter Try.func12, Try.ntmps12
    have hX := Blk.new (w.alloc (.cells #[.int .i64 cc, .int .i64 cm, .int .i64 cr, .int .i64 cg] 45)) [.int .i64 line, .int .i64 j, .int .i64 cq, .int .i64 cm_, .int .u64 a, .int .u64 p, .bool found, .int .i64 tail, .int .i64 cyc] 86
    have hB := (Blk.new w [.int .i64 cc, .int .i64 cm, .int .i64 cr, .int .i64 cg] 45).alloc (.cells #[.int .i64 line, .int .i64 j, .int .i64 cq, .int .i64 cm_, .int .u64 a, .int .u64 p, .bool found, .int .i64 tail, .int .i64 cyc] 86)
    simp only [World.size_alloc] at hX
    have hFF := ((Fr.refl [] w).alloc (.cells #[.int .i64 cc, .int .i64 cm, .int .i64 cr, .int .i64 cg] 45)).alloc (.cells #[.int .i64 line, .int .i64 j, .int .i64 cq, .int .i64 cm_, .int .u64 a, .int .u64 p, .bool found, .int .i64 tail, .int .i64 cyc] 86)
    have kX := hX.cell
    have kB := hB.cell
    go_wp2_with (first | (go_at_call 67; refine (awake17_any _).mono ?_; rintro e w2 ⟨rfl, hF2⟩; (have hB := hB.kept hF2 (by simp)); (have kB := hB.cell); (have hX := hX.kept hF2 (by simp)); (have kX := hX.cell); (have hFF := hFF.trans hF2)))
    have hX := hX.drew
    have hB := hB.drew
    have hFF := hFF.drew
    have kX := hX.cell
    have kB := hB.cell
    refine wp_region_held_drew (S := (fun w' => w'.cell? ⟨w.heap.size + 1, 0, none⟩ = some (.int .i64 line) ∧ w'.cell? ⟨w.heap.size + 1, 1, none⟩ = some (.int .i64 j) ∧ w'.cell? ⟨w.heap.size + 1, 2, none⟩ = some (.int .i64 cq) ∧ w'.cell? ⟨w.heap.size + 1, 3, none⟩ = some (.int .i64 cm_) ∧ w'.cell? ⟨w.heap.size + 1, 4, none⟩ = some (.int .u64 a) ∧ w'.cell? ⟨w.heap.size + 1, 5, none⟩ = some (.int .u64 p) ∧ w'.cell? ⟨w.heap.size + 1, 6, none⟩ = some (.bool found) ∧ w'.cell? ⟨w.heap.size + 1, 7, none⟩ = some (.int .i64 tail) ∧ w'.cell? ⟨w.heap.size + 1, 8, none⟩ = some (.int .i64 cyc))) (by kernel_rfl) ?_ (fun hHeld => ?_)
    · (try dsimp only); go_keep
    refine wpAnyH_take (i := 0) (v := ?_) rfl (by kernel_rfl) (by kernel_rfl) (by kernel_rfl) (fun _ _ _ h => h) (Or.inl ⟨by rfl, ?_⟩) (by assumption) ?_
    rotate_left
    · intro w hSw; (try dsimp only at hSw); go_simp; first | done | with_reducible rfl
    try simp only [Act.put, List.getElem_toArray, List.getElem_cons_succ, List.getElem_cons_zero, List.setIfInBounds_toArray, List.set_cons_zero, List.set_cons_succ]
    refine wpAnyH_take (i := 2) (v := ?_) rfl (by kernel_rfl) (by kernel_rfl) (by kernel_rfl) (fun _ _ _ h => h) (Or.inl ⟨by rfl, ?_⟩) (by assumption) ?_
    rotate_left
    · intro w hSw; (try dsimp only at hSw); go_simp; first | done | with_reducible rfl
    try simp only [Act.put, List.getElem_toArray, List.getElem_cons_succ, List.getElem_cons_zero, List.setIfInBounds_toArray, List.set_cons_zero, List.set_cons_succ]
    refine wpAnyH_take (i := 3) (v := ?_) rfl (by kernel_rfl) (by kernel_rfl) (by kernel_rfl) (fun _ _ _ h => h) (Or.inl ⟨by rfl, ?_⟩) (by assumption) ?_
    rotate_left
    · intro w hSw; (try dsimp only at hSw); go_simp; first | done | with_reducible rfl
    try simp only [Act.put, List.getElem_toArray, List.getElem_cons_succ, List.getElem_cons_zero, List.setIfInBounds_toArray, List.set_cons_zero, List.set_cons_succ]
    refine wpAnyH_take (i := 4) (v := ?_) rfl (by kernel_rfl) (by kernel_rfl) (by kernel_rfl) (fun _ _ _ h => h) (Or.inl ⟨by rfl, ?_⟩) (by assumption) ?_
    rotate_left
    · intro w hSw; (try dsimp only at hSw); go_simp; first | done | with_reducible rfl
    try simp only [Act.put, List.getElem_toArray, List.getElem_cons_succ, List.getElem_cons_zero, List.setIfInBounds_toArray, List.set_cons_zero, List.set_cons_succ]
    refine wpAnyH_ready (rs := [1]) (by kernel_rfl) (by simp) ?_
    refine AllReadyH.cons rfl (fun K hK => ?_) AllReadyH.nil
    go_simp
    go_at_call 68
    refine (HHo.out _).mono ?_
    rintro e w4 ⟨rfl, hF2⟩
    (have hB := hB.kept hF2 List.not_mem_nil)
    (have kB := hB.cell)
    (have hX := hX.kept hF2 List.not_mem_nil)
    (have kX := hX.cell)
    (have hFF := hFF.trans hF2)
    go_wp2_with fail
    refine hK.out _ _ ?_ (fun hHeld => ?_)
    · (try dsimp only); go_keep
    clear hK K
    try simp only [Act.put, List.getElem_toArray, List.getElem_cons_succ, List.getElem_cons_zero, List.setIfInBounds_toArray, List.set_cons_zero, List.set_cons_succ]
    refine wpAnyH_take (i := 5) (v := ?_) rfl (by kernel_rfl) (by kernel_rfl) (by kernel_rfl) (fun _ _ _ h => h) (Or.inl ⟨by rfl, ?_⟩) (by assumption) ?_
    rotate_left
    · intro w hSw; (try dsimp only at hSw); go_simp; first | done | with_reducible rfl
    try simp only [Act.put, List.getElem_toArray, List.getElem_cons_succ, List.getElem_cons_zero, List.setIfInBounds_toArray, List.set_cons_zero, List.set_cons_succ]
    refine wpAnyH_take (i := 6) (v := ?_) rfl (by kernel_rfl) (by kernel_rfl) (by kernel_rfl) (fun _ _ _ h => h) (Or.inl ⟨by rfl, ?_⟩) (by assumption) ?_
    rotate_left
    · intro w hSw; (try dsimp only at hSw); go_simp; first | done | with_reducible rfl
    try simp only [Act.put, List.getElem_toArray, List.getElem_cons_succ, List.getElem_cons_zero, List.setIfInBounds_toArray, List.set_cons_zero, List.set_cons_succ]
    refine wpAnyH_take (i := 7) (v := ?_) rfl (by kernel_rfl) (by kernel_rfl) (by kernel_rfl) (fun _ _ _ h => h) (Or.inl ⟨by rfl, ?_⟩) (by assumption) ?_
    rotate_left
    · intro w hSw; (try dsimp only at hSw); go_simp; first | done | with_reducible rfl
    try simp only [Act.put, List.getElem_toArray, List.getElem_cons_succ, List.getElem_cons_zero, List.setIfInBounds_toArray, List.set_cons_zero, List.set_cons_succ]
    refine wpAnyH_take (i := 8) (v := ?_) rfl (by kernel_rfl) (by kernel_rfl) (by kernel_rfl) (fun _ _ _ h => h) (Or.inl ⟨by rfl, ?_⟩) (by assumption) ?_
    rotate_left
    · intro w hSw; (try dsimp only at hSw); go_simp; first | done | with_reducible rfl
    try simp only [Act.put, List.getElem_toArray, List.getElem_cons_succ, List.getElem_cons_zero, List.setIfInBounds_toArray, List.set_cons_zero, List.set_cons_succ]
    refine wpAnyH_take (i := 9) (v := ?_) rfl (by kernel_rfl) (by kernel_rfl) (by kernel_rfl) (fun _ _ _ h => h) (Or.inl ⟨by rfl, ?_⟩) (by assumption) ?_
    rotate_left
    · intro w hSw; (try dsimp only at hSw); go_simp; first | done | with_reducible rfl
    try simp only [Act.put, List.getElem_toArray, List.getElem_cons_succ, List.getElem_cons_zero, List.setIfInBounds_toArray, List.set_cons_zero, List.set_cons_succ]
    refine wpAnyH_take (i := 10) (v := ?_) rfl (by kernel_rfl) (by kernel_rfl) (by kernel_rfl) (fun _ _ _ h => h) (Or.inl ⟨by rfl, ?_⟩) (by assumption) ?_
    rotate_left
    · intro w hSw; (try dsimp only at hSw); go_simp; first | done | with_reducible rfl
    try simp only [Act.put, List.getElem_toArray, List.getElem_cons_succ, List.getElem_cons_zero, List.setIfInBounds_toArray, List.set_cons_zero, List.set_cons_succ]
    refine wpAnyH_done (by kernel_rfl) ?_ _
    clear HHo
    go_wp2_with (first | (go_at_call 62; refine (HBo _ hFF).out.mono ?_; rintro e w5 ⟨rfl, hF2⟩; (have hB := hB.kept hF2 (by simp)); (have kB := hB.cell); (have hX := hX.kept hF2 (by simp)); (have kX := hX.cell); (have hFF := hFF.trans hF2)) | (go_at_call 69; refine (HN.out _).mono ?_; rintro e w6 ⟨rfl, hF2⟩; (have hFF := hFF.trans hF2)))
    go_ret
    exact ⟨rfl, hFF.alloc _⟩

set_option maxRecDepth 100000 in
set_option maxHeartbeats 4000000 in
theorem barSteps_any_hi (c : Cfg) (v : Value) (l : List Int) (x : ColV) (g : 15 < x.line) (w : World) (hx : x.Wf) (hv : RdS w v l.length (u64s l)) (hl : l.length ≤ 35184372088832) (hwf : ∀ y, y ∈ l → 0 ≤ y ∧ y < 18446744073709551616) :
    Calls Try.prog 12 #[c.val, v, x.val] w fun e w' => e = .returned (.bool true) ∧ Fr [] w w' := by
  obtain ⟨ua, uc, rfl, hu⟩ := hv.elim
  clear hu
  have g1 : decide (12 ≤ x.line) = true := by simp; omega
  have g2 : decide (x.line ≤ 15) = false := by simpa using g
  have HHo := hid (fun W => shut_hi x.line x.j x.c x.m x.a x.p x.tail x.cyc x.found g1 g2 W)
  clear g
  have HN := hid (fun W => banil W x.line x.j x.c x.m x.a x.p x.tail x.cyc x.found)
  by_cases hbo : bothOk c l.length
  · have HBo := fun W (f : Fr [] w W) => hid (both_ok (w := W) hbo.1 hbo.2.1 _ l (hv.kept0 f) hbo.2.2 hwf)
    clear hv hbo hl hwf
    obtain ⟨s0, hs0⟩ : ∃ s : HS, s = ⟨c, l, Acc.z⟩ := ⟨_, rfl⟩
    replace hs0 := hid hs0
    by_cases hnear : x.Near
    · have HX := fun {W : World} {h ab db : Nat} (H : HAt W h ab db s0) => ba_any H x hx hnear
      have HY := fun {W : World} {r rd cap : Nat} {ext : List Value} (H : RAt W r rd cap ext s0) => rba_any H x hx hnear
      have HFa := hid (fun W => far_no x hnear W)
      obtain ⟨res, hres⟩ : ∃ r, r = barM s0 x := ⟨_, rfl⟩
      rw [← hres] at HX HY
      clear hres hnear hx HN
      obtain ⟨⟨line2, j2, cq2, cm_2, a2, p2, found2, tail2, cyc2⟩, fl0, fl1, s2⟩ := res
      simp only [ColV.val] at HX HY
      have HAl := fun {W : World} {h ab db r rd cap : Nat} {ext : List Value} (H : HAt W h ab db s2) (R : RAt W r rd cap ext s2) => hid (by have := alike_any H R; simp only [decide_true, Bool.and_self] at this; exact this)
      obtain ⟨line, j, cq, cm_, a, p, found, tail, cyc⟩ := x
      unfold ColV.val
      obtain ⟨cc, cm, cr, cg⟩ := c
      simp only at g1 g2
      go_enter Try.func12, Try.ntmps12
      have hX := Blk.new (w.alloc (.cells #[.int .i64 cc, .int .i64 cm, .int .i64 cr, .int .i64 cg] 45)) [.int .i64 line, .int .i64 j, .int .i64 cq, .int .i64 cm_, .int .u64 a, .int .u64 p, .bool found, .int .i64 tail, .int .i64 cyc] 86
      have hB := (Blk.new w [.int .i64 cc, .int .i64 cm, .int .i64 cr, .int .i64 cg] 45).alloc (.cells #[.int .i64 line, .int .i64 j, .int .i64 cq, .int .i64 cm_, .int .u64 a, .int .u64 p, .bool found, .int .i64 tail, .int .i64 cyc] 86)
      simp only [World.size_alloc] at hX
      have hFF := ((Fr.refl [] w).alloc (.cells #[.int .i64 cc, .int .i64 cm, .int .i64 cr, .int .i64 cg] 45)).alloc (.cells #[.int .i64 line, .int .i64 j, .int .i64 cq, .int .i64 cm_, .int .u64 a, .int .u64 p, .bool found, .int .i64 tail, .int .i64 cyc] 86)
      have kX := hX.cell
      have kB := hB.cell
      go_wp2_with (first | (go_at_call 67; refine (awake17_any _).mono ?_; rintro e w2 ⟨rfl, hF2⟩; (have hB := hB.kept hF2 (by simp)); (have kB := hB.cell); (have hX := hX.kept hF2 (by simp)); (have kX := hX.cell); (have hFF := hFF.trans hF2)))
      have hX := hX.drew
      have hB := hB.drew
      have hFF := hFF.drew
      have kX := hX.cell
      have kB := hB.cell
      refine wp_region_held_drew (S := (fun w' => w'.cell? ⟨w.heap.size + 1, 0, none⟩ = some (.int .i64 line) ∧ w'.cell? ⟨w.heap.size + 1, 1, none⟩ = some (.int .i64 j) ∧ w'.cell? ⟨w.heap.size + 1, 2, none⟩ = some (.int .i64 cq) ∧ w'.cell? ⟨w.heap.size + 1, 3, none⟩ = some (.int .i64 cm_) ∧ w'.cell? ⟨w.heap.size + 1, 4, none⟩ = some (.int .u64 a) ∧ w'.cell? ⟨w.heap.size + 1, 5, none⟩ = some (.int .u64 p) ∧ w'.cell? ⟨w.heap.size + 1, 6, none⟩ = some (.bool found) ∧ w'.cell? ⟨w.heap.size + 1, 7, none⟩ = some (.int .i64 tail) ∧ w'.cell? ⟨w.heap.size + 1, 8, none⟩ = some (.int .i64 cyc))) (by kernel_rfl) ?_ (fun hHeld => ?_)
      · (try dsimp only); go_keep
      refine wpAnyH_take (i := 0) (v := ?_) rfl (by kernel_rfl) (by kernel_rfl) (by kernel_rfl) (fun _ _ _ h => h) (Or.inl ⟨by rfl, ?_⟩) (by assumption) ?_
      rotate_left
      · intro w hSw; (try dsimp only at hSw); go_simp; first | done | with_reducible rfl
      try simp only [Act.put, List.getElem_toArray, List.getElem_cons_succ, List.getElem_cons_zero, List.setIfInBounds_toArray, List.set_cons_zero, List.set_cons_succ]
      refine wpAnyH_take (i := 2) (v := ?_) rfl (by kernel_rfl) (by kernel_rfl) (by kernel_rfl) (fun _ _ _ h => h) (Or.inl ⟨by rfl, ?_⟩) (by assumption) ?_
      rotate_left
      · intro w hSw; (try dsimp only at hSw); go_simp; first | done | with_reducible rfl
      try simp only [Act.put, List.getElem_toArray, List.getElem_cons_succ, List.getElem_cons_zero, List.setIfInBounds_toArray, List.set_cons_zero, List.set_cons_succ]
      refine wpAnyH_take (i := 3) (v := ?_) rfl (by kernel_rfl) (by kernel_rfl) (by kernel_rfl) (fun _ _ _ h => h) (Or.inl ⟨by rfl, ?_⟩) (by assumption) ?_
      rotate_left
      · intro w hSw; (try dsimp only at hSw); go_simp; first | done | with_reducible rfl
      try simp only [Act.put, List.getElem_toArray, List.getElem_cons_succ, List.getElem_cons_zero, List.setIfInBounds_toArray, List.set_cons_zero, List.set_cons_succ]
      refine wpAnyH_take (i := 4) (v := ?_) rfl (by kernel_rfl) (by kernel_rfl) (by kernel_rfl) (fun _ _ _ h => h) (Or.inl ⟨by rfl, ?_⟩) (by assumption) ?_
      rotate_left
      · intro w hSw; (try dsimp only at hSw); go_simp; first | done | with_reducible rfl
      try simp only [Act.put, List.getElem_toArray, List.getElem_cons_succ, List.getElem_cons_zero, List.setIfInBounds_toArray, List.set_cons_zero, List.set_cons_succ]
      refine wpAnyH_ready (rs := [1]) (by kernel_rfl) (by simp) ?_
      refine AllReadyH.cons rfl (fun K hK => ?_) AllReadyH.nil
      go_simp
      go_at_call 68
      refine (HHo.out _).mono ?_
      rintro e w4 ⟨rfl, hF2⟩
      (have hB := hB.kept hF2 List.not_mem_nil)
      (have kB := hB.cell)
      (have hX := hX.kept hF2 List.not_mem_nil)
      (have kX := hX.cell)
      (have hFF := hFF.trans hF2)
      go_wp2_with fail
      refine hK.out _ _ ?_ (fun hHeld => ?_)
      · (try dsimp only); go_keep
      clear hK K
      try simp only [Act.put, List.getElem_toArray, List.getElem_cons_succ, List.getElem_cons_zero, List.setIfInBounds_toArray, List.set_cons_zero, List.set_cons_succ]
      refine wpAnyH_take (i := 5) (v := ?_) rfl (by kernel_rfl) (by kernel_rfl) (by kernel_rfl) (fun _ _ _ h => h) (Or.inl ⟨by rfl, ?_⟩) (by assumption) ?_
      rotate_left
      · intro w hSw; (try dsimp only at hSw); go_simp; first | done | with_reducible rfl
      try simp only [Act.put, List.getElem_toArray, List.getElem_cons_succ, List.getElem_cons_zero, List.setIfInBounds_toArray, List.set_cons_zero, List.set_cons_succ]
      refine wpAnyH_take (i := 6) (v := ?_) rfl (by kernel_rfl) (by kernel_rfl) (by kernel_rfl) (fun _ _ _ h => h) (Or.inl ⟨by rfl, ?_⟩) (by assumption) ?_
      rotate_left
      · intro w hSw; (try dsimp only at hSw); go_simp; first | done | with_reducible rfl
      try simp only [Act.put, List.getElem_toArray, List.getElem_cons_succ, List.getElem_cons_zero, List.setIfInBounds_toArray, List.set_cons_zero, List.set_cons_succ]
      refine wpAnyH_take (i := 7) (v := ?_) rfl (by kernel_rfl) (by kernel_rfl) (by kernel_rfl) (fun _ _ _ h => h) (Or.inl ⟨by rfl, ?_⟩) (by assumption) ?_
      rotate_left
      · intro w hSw; (try dsimp only at hSw); go_simp; first | done | with_reducible rfl
      try simp only [Act.put, List.getElem_toArray, List.getElem_cons_succ, List.getElem_cons_zero, List.setIfInBounds_toArray, List.set_cons_zero, List.set_cons_succ]
      refine wpAnyH_take (i := 8) (v := ?_) rfl (by kernel_rfl) (by kernel_rfl) (by kernel_rfl) (fun _ _ _ h => h) (Or.inl ⟨by rfl, ?_⟩) (by assumption) ?_
      rotate_left
      · intro w hSw; (try dsimp only at hSw); go_simp; first | done | with_reducible rfl
      try simp only [Act.put, List.getElem_toArray, List.getElem_cons_succ, List.getElem_cons_zero, List.setIfInBounds_toArray, List.set_cons_zero, List.set_cons_succ]
      refine wpAnyH_take (i := 9) (v := ?_) rfl (by kernel_rfl) (by kernel_rfl) (by kernel_rfl) (fun _ _ _ h => h) (Or.inl ⟨by rfl, ?_⟩) (by assumption) ?_
      rotate_left
      · intro w hSw; (try dsimp only at hSw); go_simp; first | done | with_reducible rfl
      try simp only [Act.put, List.getElem_toArray, List.getElem_cons_succ, List.getElem_cons_zero, List.setIfInBounds_toArray, List.set_cons_zero, List.set_cons_succ]
      refine wpAnyH_take (i := 10) (v := ?_) rfl (by kernel_rfl) (by kernel_rfl) (by kernel_rfl) (fun _ _ _ h => h) (Or.inl ⟨by rfl, ?_⟩) (by assumption) ?_
      rotate_left
      · intro w hSw; (try dsimp only at hSw); go_simp; first | done | with_reducible rfl
      try simp only [Act.put, List.getElem_toArray, List.getElem_cons_succ, List.getElem_cons_zero, List.setIfInBounds_toArray, List.set_cons_zero, List.set_cons_succ]
      refine wpAnyH_done (by kernel_rfl) ?_ _
      clear HHo
      go_wp2_with (first | (go_at_call 62; refine (HBo _ hFF).out.mono ?_; rintro e w5 ⟨⟨h, ab, db, r, rd, cap, ext, rfl, HH, HR, q1, q2, q3, q4, q5, d1, d2, d3, d4, d5, d6⟩, hF2⟩; rw [← hs0.out] at HH HR; (have hXl := hX.lt); (have hX := hX.kept hF2 (by simp)); (have nX : w.heap.size + 1 ∉ [h, db] := by simp; omega); (have nR : r ∉ [h, db] := by simp; omega); (have nRd : rd ∉ [h, db] := by simp; omega); (have nH : h ∉ [r, rd] := by simp; omega); (have nAb : ab ∉ [r, rd] := by simp; omega); (have nDb : db ∉ [r, rd] := by simp; omega); (have sF := hFF.size); (have hSS := fun i (m : i ∈ [h, db]) (l : i < w.heap.size) => (show i ∈ ([] : List Nat) by simp at m; omega)); (have hST := fun i (m : i ∈ [r, rd]) (l : i < w.heap.size) => (show i ∈ ([] : List Nat) by simp at m; omega)); (have kX := hX.cell); (have hFF := hFF.trans hF2); clear d1 d2 d3 d4 d5 d6 q1 q2 q3 q4 q5 sF) | (go_at_call 63; refine (HFa.out _).mono ?_; rintro e w5 ⟨rfl, hF2⟩; (have HH := HH.kept0 hF2); (have HR := HR.kept0 hF2); (have hX := hX.kept hF2 (by simp)); (have kX := hX.cell); (have hFF := hFF.trans hF2)) | (go_at_call 69; refine (HX HH).mono ?_; rintro e w6 ⟨rfl, HH2, hF2⟩; (have HR := HR.kept hF2 nR nRd); (have hX := hX.kept hF2 nX); (have kX := (hX.alloc (.cells #[.int .i64 line2, .int .i64 j2, .int .i64 cq2, .int .i64 cm_2, .int .u64 a2, .int .u64 p2, .bool found2, .int .i64 tail2, .int .i64 cyc2] 86)).cell); (have hFF := hFF.trans_new hF2 hSS)) | (go_at_call 70; refine (HY (HR.alloc _)).mono ?_; rintro e w7 ⟨rfl, HR2, hF2⟩; (have HH2 := (HH2.alloc _).kept hF2 nH nAb nDb); (have nA : w6.heap.size ∉ [r, rd] := by have := HR.blk.lt; have := HR.ar.dat.lt; simp; omega); (have hA := (Blk.new w6 [.int .i64 line2, .int .i64 j2, .int .i64 cq2, .int .i64 cm_2, .int .u64 a2, .int .u64 p2, .bool found2, .int .i64 tail2, .int .i64 cyc2] 86).kept hF2 nA); (have kA := (hA.alloc (.cells #[.int .i64 line2, .int .i64 j2, .int .i64 cq2, .int .i64 cm_2, .int .u64 a2, .int .u64 p2, .bool found2, .int .i64 tail2, .int .i64 cyc2] 86)).cell); (have hFF := (hFF.alloc _).trans_new hF2 hST)) | (go_at_call 66; refine (HAl (HH2.alloc _) (HR2.alloc _)).out.mono ?_; rintro e w8 ⟨rfl, hF2⟩; (have hFF := (hFF.alloc _).trans hF2)))
      go_ret
      exact ⟨rfl, hFF⟩
    · have HFa := hid (fun W => far_yes x hnear W)
      clear hx hnear
      obtain ⟨line, j, cq, cm_, a, p, found, tail, cyc⟩ := x
      unfold ColV.val
      obtain ⟨cc, cm, cr, cg⟩ := c
      simp only at g1 g2
      go_enter Try.func12, Try.ntmps12
      have hX := Blk.new (w.alloc (.cells #[.int .i64 cc, .int .i64 cm, .int .i64 cr, .int .i64 cg] 45)) [.int .i64 line, .int .i64 j, .int .i64 cq, .int .i64 cm_, .int .u64 a, .int .u64 p, .bool found, .int .i64 tail, .int .i64 cyc] 86
      have hB := (Blk.new w [.int .i64 cc, .int .i64 cm, .int .i64 cr, .int .i64 cg] 45).alloc (.cells #[.int .i64 line, .int .i64 j, .int .i64 cq, .int .i64 cm_, .int .u64 a, .int .u64 p, .bool found, .int .i64 tail, .int .i64 cyc] 86)
      simp only [World.size_alloc] at hX
      have hFF := ((Fr.refl [] w).alloc (.cells #[.int .i64 cc, .int .i64 cm, .int .i64 cr, .int .i64 cg] 45)).alloc (.cells #[.int .i64 line, .int .i64 j, .int .i64 cq, .int .i64 cm_, .int .u64 a, .int .u64 p, .bool found, .int .i64 tail, .int .i64 cyc] 86)
      have kX := hX.cell
      have kB := hB.cell
      go_wp2_with (first | (go_at_call 67; refine (awake17_any _).mono ?_; rintro e w2 ⟨rfl, hF2⟩; (have hB := hB.kept hF2 (by simp)); (have kB := hB.cell); (have hX := hX.kept hF2 (by simp)); (have kX := hX.cell); (have hFF := hFF.trans hF2)))
      have hX := hX.drew
      have hB := hB.drew
      have hFF := hFF.drew
      have kX := hX.cell
      have kB := hB.cell
      refine wp_region_held_drew (S := (fun w' => w'.cell? ⟨w.heap.size + 1, 0, none⟩ = some (.int .i64 line) ∧ w'.cell? ⟨w.heap.size + 1, 1, none⟩ = some (.int .i64 j) ∧ w'.cell? ⟨w.heap.size + 1, 2, none⟩ = some (.int .i64 cq) ∧ w'.cell? ⟨w.heap.size + 1, 3, none⟩ = some (.int .i64 cm_) ∧ w'.cell? ⟨w.heap.size + 1, 4, none⟩ = some (.int .u64 a) ∧ w'.cell? ⟨w.heap.size + 1, 5, none⟩ = some (.int .u64 p) ∧ w'.cell? ⟨w.heap.size + 1, 6, none⟩ = some (.bool found) ∧ w'.cell? ⟨w.heap.size + 1, 7, none⟩ = some (.int .i64 tail) ∧ w'.cell? ⟨w.heap.size + 1, 8, none⟩ = some (.int .i64 cyc))) (by kernel_rfl) ?_ (fun hHeld => ?_)
      · (try dsimp only); go_keep
      refine wpAnyH_take (i := 0) (v := ?_) rfl (by kernel_rfl) (by kernel_rfl) (by kernel_rfl) (fun _ _ _ h => h) (Or.inl ⟨by rfl, ?_⟩) (by assumption) ?_
      rotate_left
      · intro w hSw; (try dsimp only at hSw); go_simp; first | done | with_reducible rfl
      try simp only [Act.put, List.getElem_toArray, List.getElem_cons_succ, List.getElem_cons_zero, List.setIfInBounds_toArray, List.set_cons_zero, List.set_cons_succ]
      refine wpAnyH_take (i := 2) (v := ?_) rfl (by kernel_rfl) (by kernel_rfl) (by kernel_rfl) (fun _ _ _ h => h) (Or.inl ⟨by rfl, ?_⟩) (by assumption) ?_
      rotate_left
      · intro w hSw; (try dsimp only at hSw); go_simp; first | done | with_reducible rfl
      try simp only [Act.put, List.getElem_toArray, List.getElem_cons_succ, List.getElem_cons_zero, List.setIfInBounds_toArray, List.set_cons_zero, List.set_cons_succ]
      refine wpAnyH_take (i := 3) (v := ?_) rfl (by kernel_rfl) (by kernel_rfl) (by kernel_rfl) (fun _ _ _ h => h) (Or.inl ⟨by rfl, ?_⟩) (by assumption) ?_
      rotate_left
      · intro w hSw; (try dsimp only at hSw); go_simp; first | done | with_reducible rfl
      try simp only [Act.put, List.getElem_toArray, List.getElem_cons_succ, List.getElem_cons_zero, List.setIfInBounds_toArray, List.set_cons_zero, List.set_cons_succ]
      refine wpAnyH_take (i := 4) (v := ?_) rfl (by kernel_rfl) (by kernel_rfl) (by kernel_rfl) (fun _ _ _ h => h) (Or.inl ⟨by rfl, ?_⟩) (by assumption) ?_
      rotate_left
      · intro w hSw; (try dsimp only at hSw); go_simp; first | done | with_reducible rfl
      try simp only [Act.put, List.getElem_toArray, List.getElem_cons_succ, List.getElem_cons_zero, List.setIfInBounds_toArray, List.set_cons_zero, List.set_cons_succ]
      refine wpAnyH_ready (rs := [1]) (by kernel_rfl) (by simp) ?_
      refine AllReadyH.cons rfl (fun K hK => ?_) AllReadyH.nil
      go_simp
      go_at_call 68
      refine (HHo.out _).mono ?_
      rintro e w4 ⟨rfl, hF2⟩
      (have hB := hB.kept hF2 List.not_mem_nil)
      (have kB := hB.cell)
      (have hX := hX.kept hF2 List.not_mem_nil)
      (have kX := hX.cell)
      (have hFF := hFF.trans hF2)
      go_wp2_with fail
      refine hK.out _ _ ?_ (fun hHeld => ?_)
      · (try dsimp only); go_keep
      clear hK K
      try simp only [Act.put, List.getElem_toArray, List.getElem_cons_succ, List.getElem_cons_zero, List.setIfInBounds_toArray, List.set_cons_zero, List.set_cons_succ]
      refine wpAnyH_take (i := 5) (v := ?_) rfl (by kernel_rfl) (by kernel_rfl) (by kernel_rfl) (fun _ _ _ h => h) (Or.inl ⟨by rfl, ?_⟩) (by assumption) ?_
      rotate_left
      · intro w hSw; (try dsimp only at hSw); go_simp; first | done | with_reducible rfl
      try simp only [Act.put, List.getElem_toArray, List.getElem_cons_succ, List.getElem_cons_zero, List.setIfInBounds_toArray, List.set_cons_zero, List.set_cons_succ]
      refine wpAnyH_take (i := 6) (v := ?_) rfl (by kernel_rfl) (by kernel_rfl) (by kernel_rfl) (fun _ _ _ h => h) (Or.inl ⟨by rfl, ?_⟩) (by assumption) ?_
      rotate_left
      · intro w hSw; (try dsimp only at hSw); go_simp; first | done | with_reducible rfl
      try simp only [Act.put, List.getElem_toArray, List.getElem_cons_succ, List.getElem_cons_zero, List.setIfInBounds_toArray, List.set_cons_zero, List.set_cons_succ]
      refine wpAnyH_take (i := 7) (v := ?_) rfl (by kernel_rfl) (by kernel_rfl) (by kernel_rfl) (fun _ _ _ h => h) (Or.inl ⟨by rfl, ?_⟩) (by assumption) ?_
      rotate_left
      · intro w hSw; (try dsimp only at hSw); go_simp; first | done | with_reducible rfl
      try simp only [Act.put, List.getElem_toArray, List.getElem_cons_succ, List.getElem_cons_zero, List.setIfInBounds_toArray, List.set_cons_zero, List.set_cons_succ]
      refine wpAnyH_take (i := 8) (v := ?_) rfl (by kernel_rfl) (by kernel_rfl) (by kernel_rfl) (fun _ _ _ h => h) (Or.inl ⟨by rfl, ?_⟩) (by assumption) ?_
      rotate_left
      · intro w hSw; (try dsimp only at hSw); go_simp; first | done | with_reducible rfl
      try simp only [Act.put, List.getElem_toArray, List.getElem_cons_succ, List.getElem_cons_zero, List.setIfInBounds_toArray, List.set_cons_zero, List.set_cons_succ]
      refine wpAnyH_take (i := 9) (v := ?_) rfl (by kernel_rfl) (by kernel_rfl) (by kernel_rfl) (fun _ _ _ h => h) (Or.inl ⟨by rfl, ?_⟩) (by assumption) ?_
      rotate_left
      · intro w hSw; (try dsimp only at hSw); go_simp; first | done | with_reducible rfl
      try simp only [Act.put, List.getElem_toArray, List.getElem_cons_succ, List.getElem_cons_zero, List.setIfInBounds_toArray, List.set_cons_zero, List.set_cons_succ]
      refine wpAnyH_take (i := 10) (v := ?_) rfl (by kernel_rfl) (by kernel_rfl) (by kernel_rfl) (fun _ _ _ h => h) (Or.inl ⟨by rfl, ?_⟩) (by assumption) ?_
      rotate_left
      · intro w hSw; (try dsimp only at hSw); go_simp; first | done | with_reducible rfl
      try simp only [Act.put, List.getElem_toArray, List.getElem_cons_succ, List.getElem_cons_zero, List.setIfInBounds_toArray, List.set_cons_zero, List.set_cons_succ]
      refine wpAnyH_done (by kernel_rfl) ?_ _
      clear HHo
      go_wp2_with (first | (go_at_call 62; refine (HBo _ hFF).out.mono ?_; rintro e w5 ⟨⟨h, ab, db, r, rd, cap, ext, rfl, HH, HR, q1, q2, q3, q4, q5, d1, d2, d3, d4, d5, d6⟩, hF2⟩; rw [← hs0.out] at HH HR; (have hXl := hX.lt); (have hX := hX.kept hF2 (by simp)); (have nX : w.heap.size + 1 ∉ [h, db] := by simp; omega); (have nR : r ∉ [h, db] := by simp; omega); (have nRd : rd ∉ [h, db] := by simp; omega); (have nH : h ∉ [r, rd] := by simp; omega); (have nAb : ab ∉ [r, rd] := by simp; omega); (have nDb : db ∉ [r, rd] := by simp; omega); (have sF := hFF.size); (have hSS := fun i (m : i ∈ [h, db]) (l : i < w.heap.size) => (show i ∈ ([] : List Nat) by simp at m; omega)); (have hST := fun i (m : i ∈ [r, rd]) (l : i < w.heap.size) => (show i ∈ ([] : List Nat) by simp at m; omega)); (have kX := hX.cell); (have hFF := hFF.trans hF2); clear d1 d2 d3 d4 d5 d6 q1 q2 q3 q4 q5 sF) | (go_at_call 63; refine (HFa.out _).mono ?_; rintro e w5 ⟨rfl, hF2⟩; (have HH := HH.kept0 hF2); (have HR := HR.kept0 hF2); (have hX := hX.kept hF2 (by simp)); (have kX := hX.cell); (have hFF := hFF.trans hF2)) | (go_at_call 69; refine (HN.out _).mono ?_; rintro e w6 ⟨rfl, hF2⟩; (have hFF := hFF.trans hF2)))
      go_ret
      exact ⟨rfl, hFF.alloc _⟩
  · have HBo := fun W (f : Fr [] w W) => hid (both_no (w := W) c _ l (hv.kept0 f) hbo hl)
    clear hv hbo hl hwf hx
    obtain ⟨line, j, cq, cm_, a, p, found, tail, cyc⟩ := x
    unfold ColV.val
    obtain ⟨cc, cm, cr, cg⟩ := c
    simp only at g1 g2
    go_enter Try.func12, Try.ntmps12
    have hX := Blk.new (w.alloc (.cells #[.int .i64 cc, .int .i64 cm, .int .i64 cr, .int .i64 cg] 45)) [.int .i64 line, .int .i64 j, .int .i64 cq, .int .i64 cm_, .int .u64 a, .int .u64 p, .bool found, .int .i64 tail, .int .i64 cyc] 86
    have hB := (Blk.new w [.int .i64 cc, .int .i64 cm, .int .i64 cr, .int .i64 cg] 45).alloc (.cells #[.int .i64 line, .int .i64 j, .int .i64 cq, .int .i64 cm_, .int .u64 a, .int .u64 p, .bool found, .int .i64 tail, .int .i64 cyc] 86)
    simp only [World.size_alloc] at hX
    have hFF := ((Fr.refl [] w).alloc (.cells #[.int .i64 cc, .int .i64 cm, .int .i64 cr, .int .i64 cg] 45)).alloc (.cells #[.int .i64 line, .int .i64 j, .int .i64 cq, .int .i64 cm_, .int .u64 a, .int .u64 p, .bool found, .int .i64 tail, .int .i64 cyc] 86)
    have kX := hX.cell
    have kB := hB.cell
    go_wp2_with (first | (go_at_call 67; refine (awake17_any _).mono ?_; rintro e w2 ⟨rfl, hF2⟩; (have hB := hB.kept hF2 (by simp)); (have kB := hB.cell); (have hX := hX.kept hF2 (by simp)); (have kX := hX.cell); (have hFF := hFF.trans hF2)))
    have hX := hX.drew
    have hB := hB.drew
    have hFF := hFF.drew
    have kX := hX.cell
    have kB := hB.cell
    refine wp_region_held_drew (S := (fun w' => w'.cell? ⟨w.heap.size + 1, 0, none⟩ = some (.int .i64 line) ∧ w'.cell? ⟨w.heap.size + 1, 1, none⟩ = some (.int .i64 j) ∧ w'.cell? ⟨w.heap.size + 1, 2, none⟩ = some (.int .i64 cq) ∧ w'.cell? ⟨w.heap.size + 1, 3, none⟩ = some (.int .i64 cm_) ∧ w'.cell? ⟨w.heap.size + 1, 4, none⟩ = some (.int .u64 a) ∧ w'.cell? ⟨w.heap.size + 1, 5, none⟩ = some (.int .u64 p) ∧ w'.cell? ⟨w.heap.size + 1, 6, none⟩ = some (.bool found) ∧ w'.cell? ⟨w.heap.size + 1, 7, none⟩ = some (.int .i64 tail) ∧ w'.cell? ⟨w.heap.size + 1, 8, none⟩ = some (.int .i64 cyc))) (by kernel_rfl) ?_ (fun hHeld => ?_)
    · (try dsimp only); go_keep
    refine wpAnyH_take (i := 0) (v := ?_) rfl (by kernel_rfl) (by kernel_rfl) (by kernel_rfl) (fun _ _ _ h => h) (Or.inl ⟨by rfl, ?_⟩) (by assumption) ?_
    rotate_left
    · intro w hSw; (try dsimp only at hSw); go_simp; first | done | with_reducible rfl
    try simp only [Act.put, List.getElem_toArray, List.getElem_cons_succ, List.getElem_cons_zero, List.setIfInBounds_toArray, List.set_cons_zero, List.set_cons_succ]
    refine wpAnyH_take (i := 2) (v := ?_) rfl (by kernel_rfl) (by kernel_rfl) (by kernel_rfl) (fun _ _ _ h => h) (Or.inl ⟨by rfl, ?_⟩) (by assumption) ?_
    rotate_left
    · intro w hSw; (try dsimp only at hSw); go_simp; first | done | with_reducible rfl
    try simp only [Act.put, List.getElem_toArray, List.getElem_cons_succ, List.getElem_cons_zero, List.setIfInBounds_toArray, List.set_cons_zero, List.set_cons_succ]
    refine wpAnyH_take (i := 3) (v := ?_) rfl (by kernel_rfl) (by kernel_rfl) (by kernel_rfl) (fun _ _ _ h => h) (Or.inl ⟨by rfl, ?_⟩) (by assumption) ?_
    rotate_left
    · intro w hSw; (try dsimp only at hSw); go_simp; first | done | with_reducible rfl
    try simp only [Act.put, List.getElem_toArray, List.getElem_cons_succ, List.getElem_cons_zero, List.setIfInBounds_toArray, List.set_cons_zero, List.set_cons_succ]
    refine wpAnyH_take (i := 4) (v := ?_) rfl (by kernel_rfl) (by kernel_rfl) (by kernel_rfl) (fun _ _ _ h => h) (Or.inl ⟨by rfl, ?_⟩) (by assumption) ?_
    rotate_left
    · intro w hSw; (try dsimp only at hSw); go_simp; first | done | with_reducible rfl
    try simp only [Act.put, List.getElem_toArray, List.getElem_cons_succ, List.getElem_cons_zero, List.setIfInBounds_toArray, List.set_cons_zero, List.set_cons_succ]
    refine wpAnyH_ready (rs := [1]) (by kernel_rfl) (by simp) ?_
    refine AllReadyH.cons rfl (fun K hK => ?_) AllReadyH.nil
    go_simp
    go_at_call 68
    refine (HHo.out _).mono ?_
    rintro e w4 ⟨rfl, hF2⟩
    (have hB := hB.kept hF2 List.not_mem_nil)
    (have kB := hB.cell)
    (have hX := hX.kept hF2 List.not_mem_nil)
    (have kX := hX.cell)
    (have hFF := hFF.trans hF2)
    go_wp2_with fail
    refine hK.out _ _ ?_ (fun hHeld => ?_)
    · (try dsimp only); go_keep
    clear hK K
    try simp only [Act.put, List.getElem_toArray, List.getElem_cons_succ, List.getElem_cons_zero, List.setIfInBounds_toArray, List.set_cons_zero, List.set_cons_succ]
    refine wpAnyH_take (i := 5) (v := ?_) rfl (by kernel_rfl) (by kernel_rfl) (by kernel_rfl) (fun _ _ _ h => h) (Or.inl ⟨by rfl, ?_⟩) (by assumption) ?_
    rotate_left
    · intro w hSw; (try dsimp only at hSw); go_simp; first | done | with_reducible rfl
    try simp only [Act.put, List.getElem_toArray, List.getElem_cons_succ, List.getElem_cons_zero, List.setIfInBounds_toArray, List.set_cons_zero, List.set_cons_succ]
    refine wpAnyH_take (i := 6) (v := ?_) rfl (by kernel_rfl) (by kernel_rfl) (by kernel_rfl) (fun _ _ _ h => h) (Or.inl ⟨by rfl, ?_⟩) (by assumption) ?_
    rotate_left
    · intro w hSw; (try dsimp only at hSw); go_simp; first | done | with_reducible rfl
    try simp only [Act.put, List.getElem_toArray, List.getElem_cons_succ, List.getElem_cons_zero, List.setIfInBounds_toArray, List.set_cons_zero, List.set_cons_succ]
    refine wpAnyH_take (i := 7) (v := ?_) rfl (by kernel_rfl) (by kernel_rfl) (by kernel_rfl) (fun _ _ _ h => h) (Or.inl ⟨by rfl, ?_⟩) (by assumption) ?_
    rotate_left
    · intro w hSw; (try dsimp only at hSw); go_simp; first | done | with_reducible rfl
    try simp only [Act.put, List.getElem_toArray, List.getElem_cons_succ, List.getElem_cons_zero, List.setIfInBounds_toArray, List.set_cons_zero, List.set_cons_succ]
    refine wpAnyH_take (i := 8) (v := ?_) rfl (by kernel_rfl) (by kernel_rfl) (by kernel_rfl) (fun _ _ _ h => h) (Or.inl ⟨by rfl, ?_⟩) (by assumption) ?_
    rotate_left
    · intro w hSw; (try dsimp only at hSw); go_simp; first | done | with_reducible rfl
    try simp only [Act.put, List.getElem_toArray, List.getElem_cons_succ, List.getElem_cons_zero, List.setIfInBounds_toArray, List.set_cons_zero, List.set_cons_succ]
    refine wpAnyH_take (i := 9) (v := ?_) rfl (by kernel_rfl) (by kernel_rfl) (by kernel_rfl) (fun _ _ _ h => h) (Or.inl ⟨by rfl, ?_⟩) (by assumption) ?_
    rotate_left
    · intro w hSw; (try dsimp only at hSw); go_simp; first | done | with_reducible rfl
    try simp only [Act.put, List.getElem_toArray, List.getElem_cons_succ, List.getElem_cons_zero, List.setIfInBounds_toArray, List.set_cons_zero, List.set_cons_succ]
    refine wpAnyH_take (i := 10) (v := ?_) rfl (by kernel_rfl) (by kernel_rfl) (by kernel_rfl) (fun _ _ _ h => h) (Or.inl ⟨by rfl, ?_⟩) (by assumption) ?_
    rotate_left
    · intro w hSw; (try dsimp only at hSw); go_simp; first | done | with_reducible rfl
    try simp only [Act.put, List.getElem_toArray, List.getElem_cons_succ, List.getElem_cons_zero, List.setIfInBounds_toArray, List.set_cons_zero, List.set_cons_succ]
    refine wpAnyH_done (by kernel_rfl) ?_ _
    clear HHo
    go_wp2_with (first | (go_at_call 62; refine (HBo _ hFF).out.mono ?_; rintro e w5 ⟨rfl, hF2⟩; (have hB := hB.kept hF2 (by simp)); (have kB := hB.cell); (have hX := hX.kept hF2 (by simp)); (have kX := hX.cell); (have hFF := hFF.trans hF2)) | (go_at_call 69; refine (HN.out _).mono ?_; rintro e w6 ⟨rfl, hF2⟩; (have hFF := hFF.trans hF2)))
    go_ret
    exact ⟨rfl, hFF.alloc _⟩

theorem barSteps_any (c : Cfg) (v : Value) (l : List Int) (x : ColV) (w : World) (hx : x.Wf) (hv : RdS w v l.length (u64s l)) (hl : l.length ≤ 35184372088832) (hwf : ∀ y, y ∈ l → 0 ≤ y ∧ y < 18446744073709551616) :
    Calls Try.prog 12 #[c.val, v, x.val] w fun e w' => e = .returned (.bool true) ∧ Fr [] w w' := by
  by_cases h1 : x.line < 12
  · exact barSteps_any_lo c v l x h1 w hx hv hl hwf
  by_cases h2 : 15 < x.line
  · exact barSteps_any_hi c v l x h2 w hx hv hl hwf
  exact barSteps_any_in c v l x ⟨by omega, by omega⟩ w hx hv hl hwf

end Go.Proofs.Yteggckdgjecfmaa
