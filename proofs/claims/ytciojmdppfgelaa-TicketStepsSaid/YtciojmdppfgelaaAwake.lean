/- mudlarklaw11.awake: what the document tells. -/
import Derived.Test.YtciojmdppfgelaaTicket
import Derived.Test.YtciojmdppfgelaaRefFirst
namespace Go.Proofs.Ytciojmdppfgelaa
open Go.RowKit
set_option linter.unusedVariables false
set_option linter.unusedSimpArgs false

def cfgA : Cfg := ⟨2, 1, 1, 0⟩
theorem cfgA_right : cfgA.Right := by constructor <;> decide
def wordsA : List Int := [1, 0, 0, 0, 0, 0, 0, 0, 3, 0, 0, 0, 0]
theorem firstA : firstW cfgA = wordsA := by decide
def wordsB (x : Int) : List Int := [1, 0, 0, x, x, 0, 0, 0, 3, 0, 0, 0, 0]

abbrev mutA (line t : Int) : Value := .agg #[.int .i64 line, .int .i64 0, .int .i64 0, .int .i64 0, .int .i64 0, .int .u64 0, .int .u64 0, .int .u64 0, .int .u64 0, .int .u64 t, .int .u64 0, .int .i64 0, .int .i64 0]

def sA0 : HS := ⟨cfgA, wordsB 5, Acc.z⟩
def sA1 : HS := sA0.doIt (aAdd 3 1)
def sA2 : HS := sA1.doIt (aLoad 4)
def sA3 : HS := sA2.doIt (aAdd 4 1)
theorem stA3 : wAt sA0.ws 3 = 5 := by decide
theorem stA4 : wAt sA1.ws 4 = 5 := by decide
theorem stA5 : wAt sA3.ws 4 = 6 := by decide

theorem firstA_any (W : World) : Calls Try.prog 34 #[.agg #[.int .i64 2, .int .i64 1, .int .i64 1, .int .i64 0]] W fun e w' => (∃ g, e = .returned (.slice (some ⟨g, 0, none⟩) 13 13) ∧ Blk w' g 49 (u64s wordsA) ∧ W.heap.size ≤ g) ∧ Fr [] W w' := by
  have h := rfirst4_ok (w := W) (cc := 2) (cm := 1) (cr := 1) (cg := 0) cfgA_right
  have e : (⟨((2 : Nat) : Int), ((1 : Nat) : Int), ((1 : Nat) : Int), ((0 : Nat) : Int)⟩ : Cfg) = cfgA := rfl
  rw [e, firstA] at h
  have e2 : cfgA.val = .agg #[.int .i64 2, .int .i64 1, .int .i64 1, .int .i64 0] := rfl
  rw [e2] at h
  refine h.mono ?_
  rintro e w' ⟨⟨g, rfl, hB, hg⟩, hF⟩
  exact ⟨⟨g, rfl, hB, hg⟩, hF⟩
theorem fromA_any (W : World) (v : Value) (h : RdS W v 13 (u64s (wordsB 5))) : Calls Try.prog 35 #[.agg #[.int .i64 2, .int .i64 1, .int .i64 1, .int .i64 0], v] W fun e w' => (∃ h ab db, e = .returned (.tuple #[.pointer (some ⟨h, 0, none⟩), .int .i64 0]) ∧ HAt w' h ab db sA0 ∧ W.heap.size ≤ h ∧ W.heap.size ≤ ab ∧ W.heap.size ≤ db) ∧ Fr [] W w' :=
  from_ok (w := W) cfgA_right v (wordsB 5) h (by decide) (by decide)
theorem tkA32 {W : World} {h ab db : Nat} (H : HAt W h ab db sA0) : Calls Try.prog 37 #[.pointer (some ⟨h, 0, none⟩), mutA 32 0] W fun e w' => e = .returned (.tuple #[mutA 33 5, .bool true]) ∧ HAt w' h ab db sA1 ∧ Fr [h, db] W w' := by
  have := tk32 H 0 0 0 0 0 0 0 0 0 0 0 0
  rw [stA3] at this
  exact this
theorem tkA33 {W : World} {h ab db : Nat} (H : HAt W h ab db sA1) : Calls Try.prog 37 #[.pointer (some ⟨h, 0, none⟩), mutA 33 5] W fun e w' => e = .returned (.tuple #[mutA 34 5, .bool true]) ∧ HAt w' h ab db sA2 ∧ Fr [h, db] W w' := by
  have := tk33y H 0 0 0 0 0 0 0 0 0 0 0
  rw [stA4] at this
  exact this
theorem tkA37 {W : World} {h ab db : Nat} (H : HAt W h ab db sA2) : Calls Try.prog 37 #[.pointer (some ⟨h, 0, none⟩), mutA 37 0] W fun e w' => e = .returned (.tuple #[mutA 38 0, .bool true]) ∧ HAt w' h ab db sA3 ∧ Fr [h, db] W w' :=
  tk37 H 0 0 0 0 0 0 0 0 0 0 0 0
theorem loadA {W : World} {h ab db : Nat} (H : HAt W h ab db sA3) : Calls Try.prog 69 #[.pointer (some ⟨ab, 0, none⟩), .int .i64 4] W fun e w' => e = .returned (.int .u64 6) ∧ W = w' := by
  have := aload H.ar 4
  rw [stA5] at this
  exact this

set_option maxRecDepth 100000 in
set_option maxHeartbeats 4000000 in
theorem awake_any (w : World) :
    Calls Try.prog 33 #[] w fun e w' => e = .returned (.bool true) ∧ Fr [] w w' := by
  go_enter Try.func33, Try.ntmps33
  go_wp2_with (first | (go_at_call 34; refine (firstA_any _).mono ?_; rintro e w1 ⟨⟨g, rfl, hB, hg⟩, hF1⟩; (have kB := hB.cell); (have fB := hB.free)) | (go_at_call 35; refine (fromA_any _ _ (RdS.of_blk ((hB.set 3 (.int .u64 5)).set 4 (.int .u64 5)))).mono ?_; rintro e w2 ⟨⟨h, ab, db, rfl, HH, q1, q2, q3⟩, hF2⟩; (have hFF := ((hF1.setNew (p := ⟨g, 3, none⟩) hg (.int .u64 5)).setNew (p := ⟨g, 4, none⟩) hg (.int .u64 5)).trans hF2); simp only [World.size_setCell] at q1 q3; (have q1 := Nat.le_trans hF1.size q1); (have q3 := Nat.le_trans hF1.size q3); (have hSS := fun i (m : i ∈ [h, db]) (l : i < w.heap.size) => (show i ∈ ([] : List Nat) by simp at m; omega))) | (go_at_call 37; refine (tkA37 (HH2.alloc _)).mono ?_; rintro e w6 ⟨rfl, HH3, hF5⟩; (have hX := (hX.alloc _).kept hF5 nX); (have hY := (Blk.new w5 [.int .i64 34, .int .i64 0, .int .i64 0, .int .i64 0, .int .i64 0, .int .u64 0, .int .u64 0, .int .u64 0, .int .u64 0, .int .u64 5, .int .u64 0, .int .i64 0, .int .i64 0] 60).kept hF5 nY); (have kX := hX.cell); (have kY := hY.cell); (have kH := HH3.blk.cell); (have hFF := (hFF.alloc _).trans_new hF5 hSS)) | (go_at_call 37; refine (tkA33 (HH1.alloc _)).mono ?_; rintro e w5 ⟨rfl, HH2, hF4⟩; (have hX := (Blk.new w4 [.int .i64 33, .int .i64 0, .int .i64 0, .int .i64 0, .int .i64 0, .int .u64 0, .int .u64 0, .int .u64 0, .int .u64 0, .int .u64 5, .int .u64 0, .int .i64 0, .int .i64 0] 60).kept hF4 nX); (have nY : w5.heap.size ∉ [h, db] := by have := HH2.blk.lt; have := HH2.ar.dat.lt; simp; omega); (have hFF := (hFF.alloc _).trans_new hF4 hSS)) | (go_at_call 37; refine (tkA32 HH).mono ?_; rintro e w4 ⟨rfl, HH1, hF3⟩; (have nX : w4.heap.size ∉ [h, db] := by have := HH1.blk.lt; have := HH1.ar.dat.lt; simp; omega); (have hFF := hFF.trans_new hF3 hSS)) | (go_at_call 69; refine (loadA HH3).mono ?_; rintro e w7 ⟨rfl, rfl⟩))
  go_ret
  exact ⟨rfl, hFF⟩

end Go.Proofs.Ytciojmdppfgelaa
