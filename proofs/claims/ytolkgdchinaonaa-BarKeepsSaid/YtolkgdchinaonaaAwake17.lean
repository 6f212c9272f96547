/- mudlarklaw17.awake: what the document tells. -/
import Derived.Test.YtolkgdchinaonaaBaAny
import Derived.Test.YtolkgdchinaonaaCBox
namespace Go.Proofs.Ytolkgdchinaonaa
open Go.RowKit
set_option linter.unusedVariables false
set_option linter.unusedSimpArgs false

def cfgK : Cfg := ⟨2, 1, 1, 0⟩
theorem cfgK_right : cfgK.Right := by constructor <;> decide
def wordsK : List Int := [1, 0, 0, 0, 0, 0, 0, 0, 3, 0, 0, 0, 0]
theorem firstK : firstW cfgK = wordsK := by decide
def sK0 : HS := ⟨cfgK, wordsK, Acc.z⟩
/-- The bar, step by step. -/
def baSeq : Nat → ColV × HS
  | 0 => (⟨10, 0, 0, 0, 0, 0, false, 0, 0⟩, sK0)
  | k + 1 => ((barM (baSeq k).2 (baSeq k).1).x, (barM (baSeq k).2 (baSeq k).1).s)
def wantK : List Int := [11, 12, 13, 14, 20]
theorem baSeq_ok : ∀ k, k < 5 → (baSeq k).1.Wf ∧ (baSeq k).1.Near ∧ (barM (baSeq k).2 (baSeq k).1).is = true ∧ (baSeq (k + 1)).1.line = wantK.getD k 0 ∧ (barM (baSeq k).2 (baSeq k).1).flip = (wantK.getD k 0 == 14) := by
  intro k hk
  have : k = 0 ∨ k = 1 ∨ k = 2 ∨ k = 3 ∨ k = 4 := by omega
  rcases this with rfl | rfl | rfl | rfl | rfl
  all_goals exact ⟨by constructor <;> decide, by constructor <;> decide, by decide, by decide, by decide⟩
theorem stepK (k : Nat) (hk : k < 5) {W : World} {h ab db : Nat} (H : HAt W h ab db (baSeq k).2) : Calls Try.prog 53 #[.pointer (some ⟨h, 0, none⟩), (baSeq k).1.val] W fun e w' => e = .returned (.tuple #[(baSeq (k + 1)).1.val, .bool (wantK.getD k 0 == 14), .bool true]) ∧ HAt w' h ab db (baSeq (k + 1)).2 ∧ Fr [h, db] W w' := by
  obtain ⟨h1, h2, h3, h4, h5⟩ := baSeq_ok k hk
  have := ba_any H (baSeq k).1 h1 h2
  rw [h3, h5] at this
  exact this
theorem newK_any (W : World) : Calls Try.prog 38 #[.agg #[.int .i64 2, .int .i64 1, .int .i64 1, .int .i64 0]] W fun e w' => (∃ h ab db, e = .returned (.tuple #[.pointer (some ⟨h, 0, none⟩), .int .i64 0]) ∧ HAt w' h ab db sK0 ∧ W.heap.size ≤ h ∧ W.heap.size ≤ ab ∧ W.heap.size ≤ db) ∧ Fr [] W w' := by
  have h := new_ok (w := W) cfgK_right
  rw [firstK] at h
  exact h
def colCsK (x : ColV) : List Value := [.int .i64 x.line, .int .i64 x.j, .int .i64 x.c, .int .i64 x.m, .int .u64 x.a, .int .u64 x.p, .bool x.found, .int .i64 x.tail, .int .i64 x.cyc]

set_option maxRecDepth 100000 in
set_option maxHeartbeats 4000000 in
theorem awake17_any (w : World) :
    Calls Try.prog 52 #[] w fun e w' => e = .returned (.bool true) ∧ Fr [] w w' := by
  go_enter Try.func52, Try.ntmps52
  go_wp2_with (first | (go_at_call 38; refine (newK_any _).mono ?_; rintro e w3 ⟨⟨h, ab, db, rfl, HH, q1, q2, q3⟩, hFF⟩; (have hSS := fun i (m : i ∈ [h, db]) (l : i < w.heap.size) => (show i ∈ ([] : List Nat) by simp at m; omega))))
  have z3 := hFF.size
  have l1 := HH.blk.lt
  have l2 := HH.ar.dat.lt
  have l3 := HH.ar.hdr.lt
  have hX := (Blk.new w3 (colCsK (baSeq 0).1) 81).alloc (.cells #[.int .i64 11, .int .i64 12, .int .i64 13, .int .i64 14, .int .i64 20] 3)
  have hL := Blk.new (w3.alloc (.cells #[.int .i64 10, .int .i64 0, .int .i64 0, .int .i64 0, .int .u64 0, .int .u64 0, .bool false, .int .i64 0, .int .i64 0] 81)) [.int .i64 11, .int .i64 12, .int .i64 13, .int .i64 14, .int .i64 20] 3
  replace HH := (HH.alloc (.cells #[.int .i64 10, .int .i64 0, .int .i64 0, .int .i64 0, .int .u64 0, .int .u64 0, .bool false, .int .i64 0, .int .i64 0] 81)).alloc (.cells #[.int .i64 11, .int .i64 12, .int .i64 13, .int .i64 14, .int .i64 20] 3)
  replace hFF := (hFF.alloc (.cells #[.int .i64 10, .int .i64 0, .int .i64 0, .int .i64 0, .int .u64 0, .int .u64 0, .bool false, .int .i64 0, .int .i64 0] 81)).alloc (.cells #[.int .i64 11, .int .i64 12, .int .i64 13, .int .i64 14, .int .i64 20] 3)
  simp only [World.size_alloc] at hL
  have nX : w3.heap.size ∉ [h, db] := by simp; omega
  have nL : w3.heap.size + 1 ∉ [h, db] := by simp; omega
  go_loopw [25] (fun i wr => ∃ (k : Nat), k ≤ 5 ∧ i = .int .i64 k ∧ HAt wr h ab db (baSeq k).2 ∧ Blk wr w3.heap.size 81 (colCsK (baSeq k).1) ∧ Blk wr (w3.heap.size + 1) 3 [.int .i64 11, .int .i64 12, .int .i64 13, .int .i64 14, .int .i64 20] ∧ Fr [] w wr) (fun i _ => 5 - (intOf i).toNat)
  case atStart => exact ⟨0, by omega, rfl, HH, hX, hL, hFF⟩
  case round =>
    obtain ⟨k, hk, rfl, HH, hX, hL, hFr⟩ := hrel
    by_cases hlt : k < 5
    · obtain ⟨_, _, _, hline, _⟩ := baSeq_ok k hlt
      have HX := fun (W : World) (H : HAt W h ab db (baSeq k).2) => stepK k hlt H
      have hwl := (hL.cell k).trans (show _ = some (.int .i64 (wantK.getD k 0)) by
        have : k = 0 ∨ k = 1 ∨ k = 2 ∨ k = 3 ∨ k = 4 := by omega
        rcases this with rfl | rfl | rfl | rfl | rfl <;> rfl)
      obtain ⟨wa, hwa⟩ : ∃ z, z = wantK.getD k 0 := ⟨_, rfl⟩
      rw [← hwa] at hwl hline HX
      obtain ⟨sk, hsk⟩ : ∃ z, z = (baSeq k).2 := ⟨_, rfl⟩
      obtain ⟨xk, hxk⟩ : ∃ z, z = (baSeq k).1 := ⟨_, rfl⟩
      rw [← hxk] at hX
      rw [← hsk] at HH
      rw [← hxk, ← hsk] at HX
      obtain ⟨y, hy⟩ : ∃ z, z = (baSeq (k + 1)).1 := ⟨_, rfl⟩
      obtain ⟨sy, hsy⟩ : ∃ z, z = (baSeq (k + 1)).2 := ⟨_, rfl⟩
      rw [← hy] at hline
      rw [← hy, ← hsy] at HX
      replace hy := hid hy
      replace hsy := hid hsy
      clear hwa hsk hxk
      obtain ⟨line, j, c, m, a, p, found, tail, cyc⟩ := xk
      obtain ⟨line2, j2, c2, m2, a2, p2, found2, tail2, cyc2⟩ := y
      simp only at hline
      subst hline
      simp only [ColV.val, colCsK] at HX hX
      replace HX := hid HX
      have hb1 : (!(line2 == 14) == (line2 == 14)) = false := by simp
      have hb2 : (line2 != line2) = false := by simp
      have kX := hX.cell
      have lr1 := HH.blk.lt
      have lr2 := hX.lt
      have lr3 := hL.lt
      have fX := hX.free
      go_wp2_with (first | (go_at_call 53; refine (HX.out _ HH).mono ?_; rintro e w5 ⟨rfl, HH, hF2⟩; (replace hX := hX.kept hF2 nX); (replace hL := hL.kept hF2 nL); (have hN := Blk.new w5 [.int .i64 line2, .int .i64 j2, .int .i64 c2, .int .i64 m2, .int .u64 a2, .int .u64 p2, .bool found2, .int .i64 tail2, .int .i64 cyc2] 81); (have kN := hN.cell); (have hX5 := hX.alloc (.cells #[.int .i64 line2, .int .i64 j2, .int .i64 c2, .int .i64 m2, .int .u64 a2, .int .u64 p2, .bool found2, .int .i64 tail2, .int .i64 cyc2] 81)); (have fX5 := hX5.free); (have kX5 := hX5.cell); (replace hFr := hFr.trans_new hF2 hSS)))
      have hX6 := hX5.set9 (.int .i64 line2) (.int .i64 j2) (.int .i64 c2) (.int .i64 m2) (.int .u64 a2) (.int .u64 p2) (.bool found2) (.int .i64 tail2) (.int .i64 cyc2)
      go_roundw
      case rel =>
        refine ⟨k + 1, by omega, by go_num, ?_, ?_, ?_, ?_⟩
        · rw [← hsy.out]
          have a1 : h ≠ w3.heap.size := by omega
          have a2 : db ≠ w3.heap.size := by omega
          have a3 : ab ≠ w3.heap.size := by omega
          repeat (first | with_reducible exact HH.alloc _ | with_reducible refine HAt.other ?_ a1 a3 a2 _)
        · rw [← hy.out]
          exact hX6
        · repeat (first | with_reducible exact hL.alloc _ | with_reducible refine Blk.other ?_ (Nat.succ_ne_self _) _)
        · repeat (first | with_reducible exact hFr.alloc _ | with_reducible refine Fr.setNew ?_ z3 _)
      case measure => simp [intOf]; omega
    · obtain rfl : k = 5 := by omega
      go_wp2
      go_ret
      exact ⟨rfl, hFr⟩

end Go.Proofs.Ytolkgdchinaonaa
