/- mudlarklaw10.awake: what the document tells. -/
import Derived.Test.YtinafadacgloaaaBarrier
namespace Go.Proofs.Ytinafadacgloaaa
open Go.RowKit
set_option linter.unusedVariables false
set_option linter.unusedSimpArgs false

def cfgB : Cfg := ⟨2, 1, 1, 0⟩
theorem cfgB_right : cfgB.Right := by constructor <;> decide
def wordsB0 : List Int := [1, 0, 0, 0, 0, 0, 0, 0, 3, 0, 0, 0, 0]
theorem firstB : firstW cfgB = wordsB0 := by decide
def sB0 : HS := ⟨cfgB, wordsB0, Acc.z⟩
def sB1 : HS := sB0.doIt (aCas (cfgB.fieldP 1 2) 0 1)
def sB2 : HS := sB1.doIt (aStore 2 1)
theorem wonB : sB0.won (sB0.c.fieldP 1 2) 0 = true := by decide
theorem atB : wAt sB2.ws 2 = 1 := by decide
abbrev mutB (line p back : Int) : Value := .agg #[.int .i64 line, .int .i64 0, .int .i64 0, .int .i64 0, .int .i64 0, .int .u64 0, .int .u64 0, .int .u64 0, .int .u64 0, .int .u64 0, .int .u64 p, .int .i64 back, .int .i64 0]
theorem newB_any (W : World) : Calls Try.prog 16 #[.agg #[.int .i64 2, .int .i64 1, .int .i64 1, .int .i64 0]] W fun e w' => (∃ h ab db, e = .returned (.tuple #[.pointer (some ⟨h, 0, none⟩), .int .i64 0]) ∧ HAt w' h ab db sB0 ∧ W.heap.size ≤ h ∧ W.heap.size ≤ ab ∧ W.heap.size ≤ db) ∧ Fr [] W w' := by
  have h := new_ok (w := W) cfgB_right
  rw [firstB] at h
  exact h
theorem stepB0 {W : World} {h ab db : Nat} (H : HAt W h ab db sB0) : Calls Try.prog 29 #[.pointer (some ⟨h, 0, none⟩), mutB 80 1 90] W fun e w' => e = .returned (.tuple #[mutB 81 0 90, .bool true]) ∧ HAt w' h ab db sB1 ∧ Fr [h, db] W w' :=
  br80y H 0 0 0 0 0 0 0 0 0 1 90 0 (by decide) (by decide) wonB
theorem stepB1 {W : World} {h ab db : Nat} (H : HAt W h ab db sB1) : Calls Try.prog 29 #[.pointer (some ⟨h, 0, none⟩), mutB 81 0 90] W fun e w' => e = .returned (.tuple #[mutB 90 0 0, .bool true]) ∧ HAt w' h ab db sB2 ∧ Fr [h, db] W w' :=
  br81 H 0 0 0 0 0 0 0 0 0 0 90 0
theorem loadB {W : World} {h ab db : Nat} (H : HAt W h ab db sB2) : Calls Try.prog 60 #[.pointer (some ⟨ab, 0, none⟩), .int .i64 2] W fun e w' => e = .returned (.int .u64 1) ∧ W = w' := by
  have := aload H.ar 2
  rw [atB] at this
  exact this

set_option maxRecDepth 100000 in
set_option maxHeartbeats 4000000 in
theorem awake10_any (w : World) :
    Calls Try.prog 25 #[] w fun e w' => e = .returned (.bool true) ∧ Fr [] w w' := by
  go_enter Try.func25, Try.ntmps25
  go_wp2_with (first | (go_at_call 16; refine (newB_any _).mono ?_; rintro e w1 ⟨⟨h, ab, db, rfl, HH, q1, q2, q3⟩, hFF⟩; (have hSS := fun i (m : i ∈ [h, db]) (l : i < w.heap.size) => (show i ∈ ([] : List Nat) by simp at m; omega))) | (go_at_call 29; refine (stepB1 (HH1.alloc _)).mono ?_; rintro e w3 ⟨rfl, HH2, hF2⟩; (have hX := (Blk.new w2 [.int .i64 81, .int .i64 0, .int .i64 0, .int .i64 0, .int .i64 0, .int .u64 0, .int .u64 0, .int .u64 0, .int .u64 0, .int .u64 0, .int .u64 0, .int .i64 90, .int .i64 0] 53).kept hF2 nX); (have kX := (hX.alloc (.cells #[.int .i64 90, .int .i64 0, .int .i64 0, .int .i64 0, .int .i64 0, .int .u64 0, .int .u64 0, .int .u64 0, .int .u64 0, .int .u64 0, .int .u64 0, .int .i64 0, .int .i64 0] 53)).cell); (have kH := (HH2.alloc (.cells #[.int .i64 90, .int .i64 0, .int .i64 0, .int .i64 0, .int .i64 0, .int .u64 0, .int .u64 0, .int .u64 0, .int .u64 0, .int .u64 0, .int .u64 0, .int .i64 0, .int .i64 0] 53)).blk.cell); (have hFF := (hFF.alloc _).trans_new hF2 hSS)) | (go_at_call 29; refine (stepB0 HH).mono ?_; rintro e w2 ⟨rfl, HH1, hF2⟩; (have nX : w2.heap.size ∉ [h, db] := by have := HH1.blk.lt; have := HH1.ar.dat.lt; simp; omega); (have hFF := hFF.trans_new hF2 hSS)) | (go_at_call 60; refine (loadB (HH2.alloc _)).mono ?_; rintro e w7 ⟨rfl, rfl⟩))
  go_ret
  exact ⟨rfl, hFF.alloc _⟩

end Go.Proofs.Ytinafadacgloaaa
