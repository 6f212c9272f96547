/- mudlarklaw18.awake: what the document tells. -/
import Derived.Test.YtnhnbgkhbhgifaaSweepAny
import Derived.Test.YtnhnbgkhbhgifaaCBox
namespace Go.Proofs.Ytnhnbgkhbhgifaa
open Go.RowKit
set_option linter.unusedVariables false
set_option linter.unusedSimpArgs false

def cfgS : Cfg := ⟨2, 1, 1, 0⟩
theorem cfgS_right : cfgS.Right := by constructor <;> decide
def wordsS : List Int := [1, 0, 0, 0, 0, 0, 0, 0, 3, 0, 0, 0, 0]
theorem firstS18 : firstW cfgS = wordsS := by decide
def sS0 : HS := ⟨cfgS, wordsS, Acc.z⟩
def sS1 : HS := sS0.doIt (aStore (cfgS.cellP 1 0) 0)
def sS2 : HS := sS1.doIt (aStore (cfgS.cellP 2 0) 2)
/-- The sweep, step by step. -/
def swSeq : Nat → ColV × HS
  | 0 => (⟨20, 0, 0, 0, 0, 0, false, 0, 0⟩, sS2)
  | k + 1 => ((swM (swSeq k).2 (swSeq k).1).x, (swM (swSeq k).2 (swSeq k).1).s)
def wantS : List Int := [24, 20, 21, 22, 23, 1]
theorem swSeq_ok : ∀ k, k < 6 → (swSeq k).1.Wf ∧ (swSeq k).1.Near ∧ (swM (swSeq k).2 (swSeq k).1).is = true ∧ (swSeq (k + 1)).1.line = wantS.getD k 0 ∧ ((swM (swSeq k).2 (swSeq k).1).what != 0) = (wantS.getD k 0 == 1) := by
  intro k hk
  have : k = 0 ∨ k = 1 ∨ k = 2 ∨ k = 3 ∨ k = 4 ∨ k = 5 := by omega
  rcases this with rfl | rfl | rfl | rfl | rfl | rfl
  all_goals exact ⟨by constructor <;> decide, by constructor <;> decide, by decide, by decide, by decide⟩
theorem swSeq_end : (swSeq 6).1.cyc = 1 ∧ (swSeq 6).1.tail = 1 ∧ wAt (swSeq 6).2.ws (cfgS.cellP 1 0) = 3 := by decide
theorem swSeq_c : ∀ k, (swSeq k).2.c = cfgS := by
  intro k
  induction k with
  | zero => rfl
  | succ k ih =>
    show (swM (swSeq k).2 (swSeq k).1).s.c = cfgS
    unfold swM swNext
    repeat (first | exact ih | split)

def whatS (k : Nat) : Int := (swM (swSeq k).2 (swSeq k).1).what
theorem stepS (k : Nat) (hk : k < 6) {W : World} {h ab db : Nat} (H : HAt W h ab db (swSeq k).2) : Calls Try.prog 34 #[.pointer (some ⟨h, 0, none⟩), (swSeq k).1.val] W fun e w' => e = .returned (.tuple #[(swSeq (k + 1)).1.val, .int .i64 (whatS k), .bool true]) ∧ HAt w' h ab db (swSeq (k + 1)).2 ∧ Fr [h, db] W w' := by
  obtain ⟨h1, h2, h3, h4, h5⟩ := swSeq_ok k hk
  have := sw_any H (swSeq k).1 h1 h2
  rw [h3] at this
  exact this
theorem newS_any (W : World) : Calls Try.prog 102 #[.agg #[.int .i64 2, .int .i64 1, .int .i64 1, .int .i64 0]] W fun e w' => (∃ h ab db, e = .returned (.tuple #[.pointer (some ⟨h, 0, none⟩), .int .i64 0]) ∧ HAt w' h ab db sS0 ∧ W.heap.size ≤ h ∧ W.heap.size ≤ ab ∧ W.heap.size ≤ db) ∧ Fr [] W w' := by
  have h := new_ok (w := W) cfgS_right
  rw [firstS18] at h
  exact h
theorem cdrS (W : World) : Calls Try.prog 104 #[.agg #[.int .i64 2, .int .i64 1, .int .i64 1, .int .i64 0], .int .i64 0] W fun e w' => e = .returned (.int .i64 (cfgS.cellP 1 0)) ∧ Fr [] W w' := cdr_any cfgS_right 0 W
theorem colS (W : World) : Calls Try.prog 105 #[.agg #[.int .i64 2, .int .i64 1, .int .i64 1, .int .i64 0], .int .i64 0] W fun e w' => e = .returned (.int .i64 (cfgS.cellP 2 0)) ∧ Fr [] W w' := colour_any cfgS_right 0 W
theorem loadS {W : World} {h ab db : Nat} (H : HAt W h ab db (swSeq 6).2) : Calls Try.prog 89 #[.pointer (some ⟨ab, 0, none⟩), .int .i64 (cfgS.cellP 1 0)] W fun e w' => e = .returned (.int .u64 3) ∧ W = w' := by
  have := aload H.ar (cfgS.cellP 1 0)
  rw [swSeq_end.2.2] at this
  exact this
def colCs (x : ColV) : List Value := [.int .i64 x.line, .int .i64 x.j, .int .i64 x.c, .int .i64 x.m, .int .u64 x.a, .int .u64 x.p, .bool x.found, .int .i64 x.tail, .int .i64 x.cyc]

set_option maxRecDepth 100000 in
set_option maxHeartbeats 4000000 in
theorem awake18_any (w : World) :
    Calls Try.prog 31 #[] w fun e w' => e = .returned (.bool true) ∧ Fr [] w w' := by
  obtain ⟨p1, hp1⟩ : ∃ ce, ce = cfgS.cellP 1 0 := ⟨_, rfl⟩
  obtain ⟨p2, hp2⟩ : ∃ ce, ce = cfgS.cellP 2 0 := ⟨_, rfl⟩
  have HC1 := hid cdrS
  have HC2 := hid colS
  have HLo := hid (fun (W : World) (h ab db : Nat) (H : HAt W h ab db (swSeq 6).2) => loadS H)
  have HS2 : Hid ((sS0.doIt (aStore p1 0)).doIt (aStore p2 2) = (swSeq 0).2) := by rw [hp1, hp2]; rfl
  rw [← hp1] at HC1 HLo
  rw [← hp2] at HC2
  clear hp1 hp2
  go_enter Try.func31, Try.ntmps31
  go_wp2_with (first | (go_at_call 102; refine (newS_any _).mono ?_; rintro e w1 ⟨⟨h, ab, db, rfl, HH, q1, q2, q3⟩, hFF⟩; (have hSS := fun i (m : i ∈ [h, db]) (l : i < w.heap.size) => (show i ∈ ([] : List Nat) by simp at m; omega)); (have kH := HH.cellsC (c := (⟨2, 1, 1, 0⟩ : Cfg)) rfl)) | (go_at_call 104; refine (HC1.out _).mono ?_; rintro e w2 ⟨rfl, hF2⟩; (replace HH := HH.kept0 hF2); (replace hFF := hFF.trans hF2)) | (go_at_call 105; refine (HC2.out _).mono ?_; rintro e w2 ⟨rfl, hF2⟩; (replace HH := HH.kept0 hF2); (replace hFF := hFF.trans hF2)) | (go_at_call 103; refine (hstore_any HH _ _ (by omega)).mono ?_; rintro e w3 ⟨rfl, HH, hF2⟩; (replace hFF := hFF.trans_new hF2 hSS); (have kH := HH.cellsC (c := (⟨2, 1, 1, 0⟩ : Cfg)) rfl)))
  rw [HS2.out] at HH
  have z3 := hFF.size
  have cdrH := HC1
  clear hF2 kH HC1 HC2
  have l1 := HH.blk.lt
  have l2 := HH.ar.dat.lt
  have l3 := HH.ar.hdr.lt
  have hX := (Blk.new w3 (colCs (swSeq 0).1) 67).alloc (.cells #[.int .i64 24, .int .i64 20, .int .i64 21, .int .i64 22, .int .i64 23, .int .i64 1] 3)
  have hL := Blk.new (w3.alloc (.cells #[.int .i64 20, .int .i64 0, .int .i64 0, .int .i64 0, .int .u64 0, .int .u64 0, .bool false, .int .i64 0, .int .i64 0] 67)) [.int .i64 24, .int .i64 20, .int .i64 21, .int .i64 22, .int .i64 23, .int .i64 1] 3
  replace HH := (HH.alloc (.cells #[.int .i64 20, .int .i64 0, .int .i64 0, .int .i64 0, .int .u64 0, .int .u64 0, .bool false, .int .i64 0, .int .i64 0] 67)).alloc (.cells #[.int .i64 24, .int .i64 20, .int .i64 21, .int .i64 22, .int .i64 23, .int .i64 1] 3)
  replace hFF := (hFF.alloc (.cells #[.int .i64 20, .int .i64 0, .int .i64 0, .int .i64 0, .int .u64 0, .int .u64 0, .bool false, .int .i64 0, .int .i64 0] 67)).alloc (.cells #[.int .i64 24, .int .i64 20, .int .i64 21, .int .i64 22, .int .i64 23, .int .i64 1] 3)
  simp only [World.size_alloc] at hL
  have nX : w3.heap.size ∉ [h, db] := by simp; omega
  have nL : w3.heap.size + 1 ∉ [h, db] := by simp; omega
  go_loopw [39] (fun i wr => ∃ (k : Nat), k ≤ 6 ∧ i = .int .i64 k ∧ HAt wr h ab db (swSeq k).2 ∧ Blk wr w3.heap.size 67 (colCs (swSeq k).1) ∧ Blk wr (w3.heap.size + 1) 3 [.int .i64 24, .int .i64 20, .int .i64 21, .int .i64 22, .int .i64 23, .int .i64 1] ∧ Fr [] w wr) (fun i _ => 6 - (intOf i).toNat)
  case atStart => exact ⟨0, by omega, rfl, HH, hX, hL, hFF⟩
  case round =>
    obtain ⟨k, hk, rfl, HH, hX, hL, hFr⟩ := hrel
    by_cases hlt : k < 6
    · obtain ⟨_, _, _, hline, hwhat⟩ := swSeq_ok k hlt
      have HX := fun (W : World) (H : HAt W h ab db (swSeq k).2) => stepS k hlt H
      have hwl := (hL.cell k).trans (show _ = some (.int .i64 (wantS.getD k 0)) by
        have : k = 0 ∨ k = 1 ∨ k = 2 ∨ k = 3 ∨ k = 4 ∨ k = 5 := by omega
        rcases this with rfl | rfl | rfl | rfl | rfl | rfl <;> rfl)
      obtain ⟨wa, hwa⟩ : ∃ z, z = wantS.getD k 0 := ⟨_, rfl⟩
      obtain ⟨wh, hwh⟩ : ∃ z, z = whatS k := ⟨_, rfl⟩
      rw [← hwa] at hwl hline hwhat
      rw [show (swM (swSeq k).2 (swSeq k).1).what = wh from hwh.symm] at hwhat
      obtain ⟨sk, hsk⟩ : ∃ z, z = (swSeq k).2 := ⟨_, rfl⟩
      obtain ⟨xk, hxk⟩ : ∃ z, z = (swSeq k).1 := ⟨_, rfl⟩
      rw [← hxk] at hX
      rw [← hsk] at HH
      rw [← hxk, ← hsk, ← hwh] at HX
      obtain ⟨y, hy⟩ : ∃ z, z = (swSeq (k + 1)).1 := ⟨_, rfl⟩
      obtain ⟨sy, hsy⟩ : ∃ z, z = (swSeq (k + 1)).2 := ⟨_, rfl⟩
      rw [← hy] at hline
      rw [← hy, ← hsy] at HX
      replace hy := hid hy
      replace hsy := hid hsy
      clear hwa hwh hsk hxk
      obtain ⟨line, j, c, m, a, p, found, tail, cyc⟩ := xk
      obtain ⟨line2, j2, c2, m2, a2, p2, found2, tail2, cyc2⟩ := y
      simp only at hline
      subst hline
      simp only [ColV.val, colCs] at HX hX
      replace HX := hid HX
      have hb1 : (!(wh != 0) == (line2 == 1)) = false := by rw [hwhat]; simp
      clear hwhat
      have hb2 : (line2 != line2) = false := by simp
      have kX := hX.cell
      have lr1 := HH.blk.lt
      have lr2 := hX.lt
      have lr3 := hL.lt
      have fX := hX.free
      go_wp2_with (first | (go_at_call 34; refine (HX.out _ HH).mono ?_; rintro e w5 ⟨rfl, HH, hF2⟩; (replace hX := hX.kept hF2 nX); (replace hL := hL.kept hF2 nL); (have hN := Blk.new w5 [.int .i64 line2, .int .i64 j2, .int .i64 c2, .int .i64 m2, .int .u64 a2, .int .u64 p2, .bool found2, .int .i64 tail2, .int .i64 cyc2] 67); (have kN := hN.cell); (have hX5 := hX.alloc (.cells #[.int .i64 line2, .int .i64 j2, .int .i64 c2, .int .i64 m2, .int .u64 a2, .int .u64 p2, .bool found2, .int .i64 tail2, .int .i64 cyc2] 67)); (have fX5 := hX5.free); (have kX5 := hX5.cell); (replace hFr := hFr.trans_new hF2 hSS)))
      have hX6 := hX5.set9 (.int .i64 line2) (.int .i64 j2) (.int .i64 c2) (.int .i64 m2) (.int .u64 a2) (.int .u64 p2) (.bool found2) (.int .i64 tail2) (.int .i64 cyc2)
      go_roundw
      case rel =>
        refine ⟨k + 1, by omega, by go_num, ?_, ?_, ?_, ?_⟩
        · rw [← hsy.out]
          have a1 : h ≠ w3.heap.size := by omega
          have a2 : db ≠ w3.heap.size := by omega
          have a3 : ab ≠ w3.heap.size := by omega
          repeat (first | with_reducible exact HH.alloc _ | with_reducible refine HAt.other ?_ a1 a3 a2 _)
        · rw [← hy.out]
          exact hX6
        · repeat (first | with_reducible exact hL.alloc _ | with_reducible refine Blk.other ?_ (Nat.succ_ne_self _) _)
        · repeat (first | with_reducible exact hFr.alloc _ | with_reducible refine Fr.setNew ?_ z3 _)
      case measure => simp [intOf]; omega
    · obtain rfl : k = 6 := by omega
      obtain ⟨e1, e2, _⟩ := swSeq_end
      obtain ⟨xk, hxk⟩ : ∃ z, z = (swSeq 6).1 := ⟨_, rfl⟩
      obtain ⟨sk, hsk⟩ : ∃ z, z = (swSeq 6).2 := ⟨_, rfl⟩
      rw [← hxk] at hX e1 e2
      have hcc : sk.c = ⟨2, 1, 1, 0⟩ := by rw [hsk]; exact swSeq_c 6
      rw [← hsk] at HH HLo
      clear hxk hsk
      obtain ⟨line, j, c, m, a, p, found, tail, cyc⟩ := xk
      simp only at e1 e2
      subst e1
      subst e2
      simp only [colCs] at hX
      have HH2 := HH.drew
      replace hX := hX.drew
      replace hFr := hFr.drew
      have kX := hX.cell
      have kH := HH2.cellsC hcc
      clear hL
      go_wp2_with fail
      go_region_held3 (fun w' => w'.cell? ⟨w3.heap.size, 7, none⟩ = some (.int .i64 1) ∧ w'.cell? ⟨w3.heap.size, 8, none⟩ = some (.int .i64 1) ∧ w'.cell? ⟨h, 0, none⟩ = some (.pointer (some ⟨ab, 0, none⟩)) ∧ w'.cell? ⟨h, 1, none⟩ = some (.int .i64 2) ∧ w'.cell? ⟨h, 2, none⟩ = some (.int .i64 1) ∧ w'.cell? ⟨h, 3, none⟩ = some (.int .i64 1) ∧ w'.cell? ⟨h, 4, none⟩ = some (.int .i64 0)) (go_keep)
        (first | (go_at_call 104; refine (cdrH.out _).mono ?_; rintro e w5 ⟨rfl, hF2⟩; (replace hX := hX.kept hF2 (by simp)); (replace HH2 := HH2.kept0 hF2); (replace kX := hX.cell); (replace kH := HH2.cellsC hcc); (replace hFr := hFr.trans hF2)) | (go_at_call 89; refine (HLo.out _ _ _ _ HH2).mono ?_; rintro e w7 ⟨rfl, rfl⟩))
      go_wp2
      go_ret
      exact ⟨rfl, hFr⟩

end Go.Proofs.Ytnhnbgkhbhgifaa
