/- mudlarklaw15.awake: what the document tells. -/
import Derived.Test.YteggckdgjecfmaaRoots
import Derived.Test.YteggckdgjecfmaaRootsBeg
namespace Go.Proofs.Yteggckdgjecfmaa
open Go.RowKit
set_option linter.unusedVariables false
set_option linter.unusedSimpArgs false

def cfgE : Cfg := ⟨2, 1, 1, 0⟩
theorem cfgE_right : cfgE.Right := by constructor <;> decide
def wordsE : List Int := [1, 0, 0, 0, 0, 0, 0, 0, 3, 0, 0, 0, 0]
theorem firstE : firstW cfgE = wordsE := by decide
def sE0 : HS := ⟨cfgE, wordsE, Acc.z⟩
def sE1 : HS := sE0.doIt (aLoad (sE0.c.rootP 0))
def sE2 : HS := sE1.doIt (aCas (sE1.c.fieldP 1 2) 0 1)
theorem wE0 : wAt sE0.ws (sE0.c.rootP 0) = 1 := by decide
theorem wE2 : wAt sE2.ws (cfgE.cellP 2 0) = 1 := by decide
abbrev colE (line j p : Int) : Value := .agg #[.int .i64 line, .int .i64 j, .int .i64 0, .int .i64 0, .int .u64 0, .int .u64 p, .bool false, .int .i64 0, .int .i64 0]
theorem newE_any (W : World) : Calls Try.prog 44 #[.agg #[.int .i64 2, .int .i64 1, .int .i64 1, .int .i64 0]] W fun e w' => (∃ h ab db, e = .returned (.tuple #[.pointer (some ⟨h, 0, none⟩), .int .i64 0]) ∧ HAt w' h ab db sE0 ∧ W.heap.size ≤ h ∧ W.heap.size ≤ ab ∧ W.heap.size ≤ db) ∧ Fr [] W w' := by
  have h := new_ok (w := W) cfgE_right
  rw [firstE] at h
  exact h
theorem stepE0 {W : World} {h ab db : Nat} (H : HAt W h ab db sE0) : Calls Try.prog 74 #[.pointer (some ⟨h, 0, none⟩), colE 1 0 0] W fun e w' => e = .returned (.tuple #[colE 2 0 1, .bool true]) ∧ HAt w' h ab db sE1 ∧ Fr [h, db] W w' := by
  have := rs1y H 0 0 0 0 0 0 0 false (by decide) (by rw [wE0]; decide)
  rw [wE0] at this
  exact this
theorem stepE1 {W : World} {h ab db : Nat} (H : HAt W h ab db sE1) : Calls Try.prog 74 #[.pointer (some ⟨h, 0, none⟩), colE 2 0 1] W fun e w' => e = .returned (.tuple #[colE 1 1 0, .bool true]) ∧ HAt w' h ab db sE2 ∧ Fr [h, db] W w' :=
  rs2a H 0 0 0 0 1 0 0 false (by decide) (by decide) (by decide) (by decide)
theorem loadE {W : World} {h ab db : Nat} (H : HAt W h ab db sE2) : Calls Try.prog 50 #[.pointer (some ⟨ab, 0, none⟩), .int .i64 (cfgE.cellP 2 0)] W fun e w' => e = .returned (.int .u64 1) ∧ W = w' := by
  have := aload H.ar (cfgE.cellP 2 0)
  rw [wE2] at this
  exact this
theorem colourE (W : World) : Calls Try.prog 129 #[.agg #[.int .i64 2, .int .i64 1, .int .i64 1, .int .i64 0], .int .i64 0] W fun e w' => e = .returned (.int .i64 (cfgE.cellP 2 0)) ∧ Fr [] W w' := colour_any cfgE_right 0 W

abbrev cE1 : Obj := .cells #[.int .i64 2, .int .i64 0, .int .i64 0, .int .i64 0, .int .u64 0, .int .u64 1, .bool false, .int .i64 0, .int .i64 0] 86
abbrev cE2 : Obj := .cells #[.int .i64 1, .int .i64 1, .int .i64 0, .int .i64 0, .int .u64 0, .int .u64 0, .bool false, .int .i64 0, .int .i64 0] 86

set_option maxRecDepth 100000 in
set_option maxHeartbeats 4000000 in
theorem awake15_any (w : World) :
    Calls Try.prog 71 #[] w fun e w' => e = .returned (.bool true) ∧ Fr [] w w' := by
  obtain ⟨ce, hce⟩ : ∃ ce, ce = cfgE.cellP 2 0 := ⟨_, rfl⟩
  have HCo := hid colourE
  have HLo := hid (fun (W : World) (h ab db : Nat) (H : HAt W h ab db sE2) => loadE H)
  rw [← hce] at HCo HLo
  clear hce
  go_enter Try.func71, Try.ntmps71
  go_wp2_with (first | (go_at_call 44; refine (newE_any _).mono ?_; rintro e w1 ⟨⟨h, ab, db, rfl, HH, q1, q2, q3⟩, hFF⟩; (have hSS := fun i (m : i ∈ [h, db]) (l : i < w.heap.size) => (show i ∈ ([] : List Nat) by simp at m; omega))) | (go_at_call 73; refine (rbegin15_any _ _ _ _ _ _ _ _ _ _).mono ?_; rintro e w2 ⟨rfl, hF2⟩; (have HH := HH.kept0 hF2); (have hFF := hFF.trans hF2)) | (go_at_call 74; refine (stepE1 (HH1.alloc _)).mono ?_; rintro e w4 ⟨rfl, HH2, hF2⟩; (have hX := (Blk.new w3 [.int .i64 2, .int .i64 0, .int .i64 0, .int .i64 0, .int .u64 0, .int .u64 1, .bool false, .int .i64 0, .int .i64 0] 86).kept hF2 nX); (have hFF := (hFF.alloc _).trans_new hF2 hSS)) | (go_at_call 74; refine (stepE0 HH).mono ?_; rintro e w3 ⟨rfl, HH1, hF2⟩; (have nX : w3.heap.size ∉ [h, db] := by have := HH1.blk.lt; have := HH1.ar.dat.lt; simp; omega); (have hFF := hFF.trans_new hF2 hSS)))
  have hX := (hX.alloc cE2).drew
  have hY := (Blk.new w4 [.int .i64 1, .int .i64 1, .int .i64 0, .int .i64 0, .int .u64 0, .int .u64 0, .bool false, .int .i64 0, .int .i64 0] 86).drew
  have HH2 := (HH2.alloc cE2).drew
  have hFF := (hFF.alloc cE2).drew
  have kX := hX.cell
  have kY := hY.cell
  have kH := HH2.cellsC (c := (⟨2, 1, 1, 0⟩ : Cfg)) rfl
  go_region_held3 (fun w' => w'.cell? ⟨w3.heap.size, 0, none⟩ = some (.int .i64 2) ∧ w'.cell? ⟨w4.heap.size, 0, none⟩ = some (.int .i64 1) ∧ w'.cell? ⟨w4.heap.size, 1, none⟩ = some (.int .i64 1) ∧ w'.cell? ⟨h, 0, none⟩ = some (.pointer (some ⟨ab, 0, none⟩)) ∧ w'.cell? ⟨h, 1, none⟩ = some (.int .i64 2) ∧ w'.cell? ⟨h, 2, none⟩ = some (.int .i64 1) ∧ w'.cell? ⟨h, 3, none⟩ = some (.int .i64 1) ∧ w'.cell? ⟨h, 4, none⟩ = some (.int .i64 0)) (go_keep)
    (first | (go_at_call 129; refine (HCo.out _).mono ?_; rintro e w5 ⟨rfl, hF2⟩; (have hX := hX.kept hF2 (by simp)); (have hY := hY.kept hF2 (by simp)); (have HH2 := HH2.kept0 hF2); (have kX := hX.cell); (have kY := hY.cell); (have kH := HH2.cellsC (c := (⟨2, 1, 1, 0⟩ : Cfg)) rfl); (have hFF := hFF.trans hF2)) | (go_at_call 50; refine (HLo.out _ _ _ _ HH2).mono ?_; rintro e w7 ⟨rfl, rfl⟩))
  go_wp2
  go_ret
  exact ⟨rfl, hFF⟩

end Go.Proofs.Yteggckdgjecfmaa
