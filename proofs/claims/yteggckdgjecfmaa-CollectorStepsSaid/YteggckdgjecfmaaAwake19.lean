/- mudlarklaw19.awake: what the document tells. -/
import Derived.Test.YteggckdgjecfmaaCol
import Derived.Test.YteggckdgjecfmaaColSmall
import Derived.Test.YteggckdgjecfmaaAwake16
namespace Go.Proofs.Yteggckdgjecfmaa
open Go.RowKit
set_option linter.unusedVariables false
set_option linter.unusedSimpArgs false

def cfgO : Cfg := ⟨2, 1, 1, 0⟩
theorem cfgO_right : cfgO.Right := by constructor <;> decide
def sO0 : HS := ⟨cfgO, firstW cfgO, Acc.z⟩
def coSeq : Nat → ColV × HS
  | 0 => (colBegin cfgO, sO0)
  | k + 1 => ((colM (coSeq k).2 (coSeq k).1).x, (colM (coSeq k).2 (coSeq k).1).s)
def coWhat (k : Nat) : Int := if k = 19 then 1 else if k = 24 then 3 else 0
def coFl (k : Nat) : Int := if k < 20 then 0 else 1
def coCy (k : Nat) : Int := if k < 25 then 0 else 1
theorem coSeq_all : (List.range 25).all (fun k => (coSeq k).1.small && decide ((colM (coSeq k).2 (coSeq k).1).what = coWhat k)) = true := by decide +kernel
theorem coSeq_ok (k : Nat) (hk : k < 25) : (coSeq k).1.small = true ∧ (colM (coSeq k).2 (coSeq k).1).what = coWhat k := by
  have := List.all_eq_true.1 coSeq_all k (List.mem_range.2 hk)
  simpa using this
theorem coSeq_flip : wAt (coSeq 20).2.ws (cfgO.cellP 2 0) = 2 ∧ wAt (coSeq 20).2.ws (cfgO.cellP 2 1) = 2 ∧ (coSeq 20).2.c = cfgO := by decide +kernel
theorem stepO (k : Nat) (hk : k < 25) {W : World} {h ab db : Nat} (H : HAt W h ab db (coSeq k).2) : Calls Try.prog 86 #[.pointer (some ⟨h, 0, none⟩), (coSeq k).1.val] W fun e w' => e = .returned (.tuple #[(coSeq (k + 1)).1.val, .int .i64 (coWhat k)]) ∧ HAt w' h ab db (coSeq (k + 1)).2 ∧ Fr [h, db] W w' := by
  obtain ⟨h1, h2⟩ := ColV.small_wf (coSeq_ok k hk).1
  have := col_any H (coSeq k).1 h1 h2
  rw [(coSeq_ok k hk).2] at this
  exact this
theorem newO_any (W : World) : Calls Try.prog 44 #[.agg #[.int .i64 2, .int .i64 1, .int .i64 1, .int .i64 0]] W fun e w' => (∃ h ab db, e = .returned (.tuple #[.pointer (some ⟨h, 0, none⟩), .int .i64 0]) ∧ HAt w' h ab db sO0 ∧ W.heap.size ≤ h ∧ W.heap.size ≤ ab ∧ W.heap.size ≤ db) ∧ Fr [] W w' := new_ok (w := W) cfgO_right
theorem colO (i : Int) (W : World) : Calls Try.prog 129 #[.agg #[.int .i64 2, .int .i64 1, .int .i64 1, .int .i64 0], .int .i64 i] W fun e w' => e = .returned (.int .i64 (cfgO.cellP 2 i)) ∧ Fr [] W w' := colour_any cfgO_right i W
theorem loadO0 {W : World} {h ab db : Nat} (H : HAt W h ab db (coSeq 20).2) : Calls Try.prog 50 #[.pointer (some ⟨ab, 0, none⟩), .int .i64 (cfgO.cellP 2 0)] W fun e w' => e = .returned (.int .u64 2) ∧ W = w' := by
  have := aload H.ar (cfgO.cellP 2 0)
  rw [coSeq_flip.1] at this
  exact this
theorem loadO1 {W : World} {h ab db : Nat} (H : HAt W h ab db (coSeq 20).2) : Calls Try.prog 50 #[.pointer (some ⟨ab, 0, none⟩), .int .i64 (cfgO.cellP 2 1)] W fun e w' => e = .returned (.int .u64 2) ∧ W = w' := by
  have := aload H.ar (cfgO.cellP 2 1)
  rw [coSeq_flip.2.1] at this
  exact this
theorem beginO (W : World) : Calls Try.prog 89 #[.agg #[.int .i64 2, .int .i64 1, .int .i64 1, .int .i64 0]] W fun e w' => e = .returned (.agg #[.int .i64 1, .int .i64 0, .int .i64 0, .int .i64 0, .int .u64 0, .int .u64 0, .bool false, .int .i64 1, .int .i64 0]) ∧ Fr [] W w' := cbegin_any 2 1 1 0 (by omega) W

theorem Fr.set9 (w : World) (b : Nat) (v0 v1 v2 v3 v4 v5 v6 v7 v8 : Value) :
    Fr [b] w (((((((((w.setCell ⟨b, 0, none⟩ v0).setCell ⟨b, 1, none⟩ v1).setCell ⟨b, 2, none⟩ v2).setCell ⟨b, 3, none⟩ v3).setCell ⟨b, 4, none⟩ v4).setCell ⟨b, 5, none⟩ v5).setCell ⟨b, 6, none⟩ v6).setCell ⟨b, 7, none⟩ v7).setCell ⟨b, 8, none⟩ v8) :=
  (((((((((Fr.refl _ _).setCell (by simp) _).setCell (by simp) _).setCell (by simp) _).setCell (by simp) _).setCell (by simp) _).setCell (by simp) _).setCell (by simp) _).setCell (by simp) _).setCell (by simp) _

set_option maxRecDepth 100000 in
set_option maxHeartbeats 8000000 in
theorem awake19_any (w : World) :
    Calls Try.prog 82 #[] w fun e w' => e = .returned (.bool true) ∧ Fr [] w w' := by
  obtain ⟨p0, hp0⟩ : ∃ z, z = cfgO.cellP 2 0 := ⟨_, rfl⟩
  obtain ⟨p1, hp1⟩ : ∃ z, z = cfgO.cellP 2 1 := ⟨_, rfl⟩
  have HC0 := hid (fun W => colO 0 W)
  have HC1 := hid (fun W => colO 1 W)
  have HL0 := hid (fun (W : World) (h ab db : Nat) (H : HAt W h ab db (coSeq 20).2) => loadO0 H)
  have HL1 := hid (fun (W : World) (h ab db : Nat) (H : HAt W h ab db (coSeq 20).2) => loadO1 H)
  rw [← hp0] at HC0 HL0
  rw [← hp1] at HC1 HL1
  clear hp0 hp1
  go_enter Try.func82, Try.ntmps82
  have hB := Blk.new w [.int .i64 2, .int .i64 1, .int .i64 1, .int .i64 0] 45
  have hFF := (Fr.refl [] w).alloc (.cells #[.int .i64 2, .int .i64 1, .int .i64 1, .int .i64 0] 45)
  have kB := hB.cell
  have lB := hB.lt
  go_wp2_with (first | (go_at_call 44; refine (newO_any _).mono ?_; rintro e w1 ⟨⟨h, ab, db, rfl, HH, q1, q2, q3⟩, hF2⟩; (have hSS := fun i (m : i ∈ [h, db]) (l : i < w.heap.size) => (show i ∈ ([] : List Nat) by simp at m q1 q3; omega)); (replace hB := hB.kept hF2 (by simp)); (replace kB := hB.cell); (replace hFF := hFF.trans hF2)) | (go_at_call 89; refine (beginO _).mono ?_; rintro e w3 ⟨rfl, hF2⟩; (replace HH := HH.kept0 hF2); (replace hFF := hFF.trans hF2)))
  have z3 := hFF.size
  clear hF2 kB q1 q2 q3 hB lB
  have l1 := HH.blk.lt
  have l2 := HH.ar.dat.lt
  have l3 := HH.ar.hdr.lt
  have hX := Blk.new w3 (colCsL (coSeq 0).1) 86
  replace HH := HH.alloc (.cells #[.int .i64 1, .int .i64 0, .int .i64 0, .int .i64 0, .int .u64 0, .int .u64 0, .bool false, .int .i64 1, .int .i64 0] 86)
  replace hFF := hFF.alloc (.cells #[.int .i64 1, .int .i64 0, .int .i64 0, .int .i64 0, .int .u64 0, .int .u64 0, .bool false, .int .i64 1, .int .i64 0] 86)
  have nX : w3.heap.size ∉ [h, db] := by simp; omega
  have a1 : h ≠ w3.heap.size := by omega
  have a2 : db ≠ w3.heap.size := by omega
  have a3 : ab ≠ w3.heap.size := by omega
  go_loopw [5, 6, 7] (fun fl cy i wr => ∃ (k : Nat), k ≤ 25 ∧ i = .int .i64 k ∧ fl = .int .i64 (coFl k) ∧ cy = .int .i64 (coCy k) ∧ HAt wr h ab db (coSeq k).2 ∧ Blk wr w3.heap.size 86 (colCsL (coSeq k).1) ∧ Fr [] w wr) (fun _ _ i _ => 25 - (intOf i).toNat)
  case atStart => exact ⟨0, by omega, rfl, rfl, rfl, HH, hX, hFF⟩
  case round =>
    clear HH hX hFF
    obtain ⟨k, hk, rfl, rfl, rfl, HH, hX, hFr⟩ := hrel
    have h100 : (k : Int) < 100 := by omega
    by_cases hlt : k < 25
    · have HX := fun (W : World) (H : HAt W h ab db (coSeq k).2) => stepO k hlt H
      have hcy : coCy k = 0 := by unfold coCy; rw [if_pos hlt]
      have hcase : (k = 19 ∧ coWhat k = 1) ∨ (k = 24 ∧ coWhat k = 3) ∨ (k ≠ 19 ∧ k ≠ 24 ∧ coWhat k = 0) := by unfold coWhat; by_cases e1 : k = 19 <;> by_cases e2 : k = 24 <;> simp [e1, e2] <;> omega
      have hfl : coFl (k + 1) = if k = 19 then 1 else coFl k := by unfold coFl; split <;> split <;> simp <;> omega
      have hcy2 : coCy (k + 1) = if k = 24 then 1 else 0 := by unfold coCy; split <;> split <;> omega
      have hf0 : k = 19 → coFl k = 0 := by rintro rfl; rfl
      rw [hcy]
      obtain ⟨fl, hfl0⟩ : ∃ z, z = coFl k := ⟨_, rfl⟩
      rw [← hfl0] at hfl hf0 ⊢
      obtain ⟨sk, hsk⟩ : ∃ z, z = (coSeq k).2 := ⟨_, rfl⟩
      obtain ⟨xk, hxk⟩ : ∃ z, z = (coSeq k).1 := ⟨_, rfl⟩
      rw [← hxk] at hX
      rw [← hsk] at HH
      rw [← hxk, ← hsk] at HX
      obtain ⟨y, hy⟩ : ∃ z, z = (coSeq (k + 1)).1 := ⟨_, rfl⟩
      obtain ⟨sy, hsy⟩ : ∃ z, z = (coSeq (k + 1)).2 := ⟨_, rfl⟩
      rw [← hy, ← hsy] at HX
      replace hy := hid hy
      replace hsy := hid hsy
      replace hfl := hid hfl
      replace hcy2 := hid hcy2
      clear hsk hxk hcy hfl0
      obtain ⟨line, j, c, m, a, p, found, tail, cyc⟩ := xk
      obtain ⟨line2, j2, c2, m2, a2', p2', found2, tail2, cyc2⟩ := y
      simp only [ColV.val, colCsL] at HX hX
      have kX := hX.cell
      have lr1 := HH.blk.lt
      have lr2 := hX.lt
      have fX := hX.free
      rcases hcase with ⟨e, hw⟩ | ⟨e, hw⟩ | ⟨e1, e2, hw⟩
      · rw [hw] at HX
        replace HX := hid HX
        obtain rfl := hf0 e
        replace hf0 := hid hf0
        replace e := hid e
        replace hw := hid hw
        go_upto_region 16 with (first | (go_at_call 86; refine (HX.out _ HH).mono ?_; rintro e w5 ⟨rfl, HH, hF2⟩; (replace hX := hX.kept hF2 nX); (have hX1 := hX.alloc (.cells #[.int .i64 line2, .int .i64 j2, .int .i64 c2, .int .i64 m2, .int .u64 a2', .int .u64 p2', .bool found2, .int .i64 tail2, .int .i64 cyc2] 86)); (replace fX := hX.free); (replace kX := hX.cell); (have fX1 := hX1.free); (have kX1 := hX1.cell); (replace hFr := hFr.trans_new hF2 hSS)))
        have F9 := Fr.set9 (w5.alloc (.cells #[.int .i64 line2, .int .i64 j2, .int .i64 c2, .int .i64 m2, .int .u64 a2', .int .u64 p2', .bool found2, .int .i64 tail2, .int .i64 cyc2] 86)) w3.heap.size (.int .i64 line2) (.int .i64 j2) (.int .i64 c2) (.int .i64 m2) (.int .u64 a2') (.int .u64 p2') (.bool found2) (.int .i64 tail2) (.int .i64 cyc2)
        have HH9 := (HH.alloc (.cells #[.int .i64 line2, .int .i64 j2, .int .i64 c2, .int .i64 m2, .int .u64 a2', .int .u64 p2', .bool found2, .int .i64 tail2, .int .i64 cyc2] 86)).kept F9 (by simp [a1]) (by simp [a3]) (by simp [a2])
        have hX9 := hX1.set9 (.int .i64 line2) (.int .i64 j2) (.int .i64 c2) (.int .i64 m2) (.int .u64 a2') (.int .u64 p2') (.bool found2) (.int .i64 tail2) (.int .i64 cyc2)
        have hFr9 := (hFr.alloc (.cells #[.int .i64 line2, .int .i64 j2, .int .i64 c2, .int .i64 m2, .int .u64 a2', .int .u64 p2', .bool found2, .int .i64 tail2, .int .i64 cyc2] 86)).trans_new F9 (by intro i hi hl; simp at hi; omega)
        obtain ⟨W9, hW9, HH8, hX8, hFr8⟩ : ∃ W9, W9 = _ ∧ HAt W9 h ab db sy ∧ Blk W9 w3.heap.size 86 [.int .i64 line2, .int .i64 j2, .int .i64 c2, .int .i64 m2, .int .u64 a2', .int .u64 p2', .bool found2, .int .i64 tail2, .int .i64 cyc2] ∧ Fr [] w W9 := ⟨_, rfl, HH9, hX9, hFr9⟩
        rw [← hW9]
        clear hW9 HH9 hX9 hFr9 F9 HH hX hFr fX kX fX1 kX1 hX1 hF2
        have hs20 : (coSeq 20).2 = sy := by rw [hsy.out, e.out]
        have hcc0 := coSeq_flip.2.2
        rw [hs20] at HL0 HL1 hcc0
        have hcc1 : sy.c = ⟨2, 1, 1, 0⟩ := hcc0
        have hcc := hid hcc1
        clear hs20 hcc0 hcc1
        have HH := HH8.drew
        have hX := hX8.drew
        have hFr := hFr8.drew
        clear HH8 hX8 hFr8
        have kH := HH.cellsC hcc.out
        go_region_held3 (fun w' => w'.cell? ⟨h, 0, none⟩ = some (.pointer (some ⟨ab, 0, none⟩)) ∧ w'.cell? ⟨h, 1, none⟩ = some (.int .i64 2) ∧ w'.cell? ⟨h, 2, none⟩ = some (.int .i64 1) ∧ w'.cell? ⟨h, 3, none⟩ = some (.int .i64 1) ∧ w'.cell? ⟨h, 4, none⟩ = some (.int .i64 0)) (go_keep)
          (first | (go_at_call 129; (with_reducible refine (HC0.out _).mono ?_); rintro e w6 ⟨rfl, hF2⟩; (replace HH := HH.kept0 hF2); (replace hX := hX.kept hF2 (by simp)); (replace kH := HH.cellsC hcc.out); (replace hFr := hFr.trans hF2)) | (go_at_call 129; (with_reducible refine (HC1.out _).mono ?_); rintro e w6 ⟨rfl, hF2⟩; (replace HH := HH.kept0 hF2); (replace hX := hX.kept hF2 (by simp)); (replace kH := HH.cellsC hcc.out); (replace hFr := hFr.trans hF2)) | (go_at_call 50; (with_reducible refine (HL0.out _ _ _ _ HH).mono ?_); rintro e w7 ⟨rfl, rfl⟩) | (go_at_call 50; (with_reducible refine (HL1.out _ _ _ _ HH).mono ?_); rintro e w7 ⟨rfl, rfl⟩))
        go_wp2_with fail
        go_roundw
        case rel => exact ⟨k + 1, by omega, by go_num, by rw [hfl.out, if_pos e.out], by rw [hcy2.out, if_neg (by have := e.out; omega)], by rw [← hsy.out]; exact HH, by rw [← hy.out]; exact hX, hFr⟩
        case measure => simp [intOf]; omega
      · rw [hw] at HX
        replace HX := hid HX
        replace hf0 := hid hf0
        replace e := hid e
        replace hw := hid hw
        go_wp2_with (first | (go_at_call 86; refine (HX.out _ HH).mono ?_; rintro e w5 ⟨rfl, HH, hF2⟩; (replace hX := hX.kept hF2 nX); (have hX1 := hX.alloc (.cells #[.int .i64 line2, .int .i64 j2, .int .i64 c2, .int .i64 m2, .int .u64 a2', .int .u64 p2', .bool found2, .int .i64 tail2, .int .i64 cyc2] 86)); (replace fX := hX.free); (replace kX := hX.cell); (have fX1 := hX1.free); (have kX1 := hX1.cell); (replace hFr := hFr.trans_new hF2 hSS)))
        have F9 := Fr.set9 (w5.alloc (.cells #[.int .i64 line2, .int .i64 j2, .int .i64 c2, .int .i64 m2, .int .u64 a2', .int .u64 p2', .bool found2, .int .i64 tail2, .int .i64 cyc2] 86)) w3.heap.size (.int .i64 line2) (.int .i64 j2) (.int .i64 c2) (.int .i64 m2) (.int .u64 a2') (.int .u64 p2') (.bool found2) (.int .i64 tail2) (.int .i64 cyc2)
        have HH9 := (HH.alloc (.cells #[.int .i64 line2, .int .i64 j2, .int .i64 c2, .int .i64 m2, .int .u64 a2', .int .u64 p2', .bool found2, .int .i64 tail2, .int .i64 cyc2] 86)).kept F9 (by simp [a1]) (by simp [a3]) (by simp [a2])
        have hX9 := hX1.set9 (.int .i64 line2) (.int .i64 j2) (.int .i64 c2) (.int .i64 m2) (.int .u64 a2') (.int .u64 p2') (.bool found2) (.int .i64 tail2) (.int .i64 cyc2)
        have hFr9 := (hFr.alloc (.cells #[.int .i64 line2, .int .i64 j2, .int .i64 c2, .int .i64 m2, .int .u64 a2', .int .u64 p2', .bool found2, .int .i64 tail2, .int .i64 cyc2] 86)).trans_new F9 (by intro i hi hl; simp at hi; omega)
        go_roundw
        case rel => exact ⟨k + 1, by omega, by go_num, by rw [hfl.out, if_neg (by have := e.out; omega)], by rw [hcy2.out, if_pos e.out], by rw [← hsy.out]; exact HH9, by rw [← hy.out]; exact hX9, hFr9⟩
        case measure => simp [intOf]; omega
      · rw [hw] at HX
        replace HX := hid HX
        replace hf0 := hid hf0
        replace e1 := hid e1
        replace e2 := hid e2
        replace hw := hid hw
        go_wp2_with (first | (go_at_call 86; refine (HX.out _ HH).mono ?_; rintro e w5 ⟨rfl, HH, hF2⟩; (replace hX := hX.kept hF2 nX); (have hX1 := hX.alloc (.cells #[.int .i64 line2, .int .i64 j2, .int .i64 c2, .int .i64 m2, .int .u64 a2', .int .u64 p2', .bool found2, .int .i64 tail2, .int .i64 cyc2] 86)); (replace fX := hX.free); (replace kX := hX.cell); (have fX1 := hX1.free); (have kX1 := hX1.cell); (replace hFr := hFr.trans_new hF2 hSS)))
        have F9 := Fr.set9 (w5.alloc (.cells #[.int .i64 line2, .int .i64 j2, .int .i64 c2, .int .i64 m2, .int .u64 a2', .int .u64 p2', .bool found2, .int .i64 tail2, .int .i64 cyc2] 86)) w3.heap.size (.int .i64 line2) (.int .i64 j2) (.int .i64 c2) (.int .i64 m2) (.int .u64 a2') (.int .u64 p2') (.bool found2) (.int .i64 tail2) (.int .i64 cyc2)
        have HH9 := (HH.alloc (.cells #[.int .i64 line2, .int .i64 j2, .int .i64 c2, .int .i64 m2, .int .u64 a2', .int .u64 p2', .bool found2, .int .i64 tail2, .int .i64 cyc2] 86)).kept F9 (by simp [a1]) (by simp [a3]) (by simp [a2])
        have hX9 := hX1.set9 (.int .i64 line2) (.int .i64 j2) (.int .i64 c2) (.int .i64 m2) (.int .u64 a2') (.int .u64 p2') (.bool found2) (.int .i64 tail2) (.int .i64 cyc2)
        have hFr9 := (hFr.alloc (.cells #[.int .i64 line2, .int .i64 j2, .int .i64 c2, .int .i64 m2, .int .u64 a2', .int .u64 p2', .bool found2, .int .i64 tail2, .int .i64 cyc2] 86)).trans_new F9 (by intro i hi hl; simp at hi; omega)
        go_roundw
        case rel => exact ⟨k + 1, by omega, by go_num, by rw [hfl.out, if_neg (by exact e1.out)], by rw [hcy2.out, if_neg e2.out], by rw [← hsy.out]; exact HH9, by rw [← hy.out]; exact hX9, hFr9⟩
        case measure => simp [intOf]; omega
    · obtain rfl : k = 25 := by omega
      have e1 : coFl 25 = 1 := rfl
      have e2 : coCy 25 = 1 := rfl
      rw [e1, e2]
      go_wp2
      go_ret
      exact ⟨rfl, hFr⟩

end Go.Proofs.Yteggckdgjecfmaa
