/- mudlarklaw12.awake: what the document tells. -/
import Derived.Test.YtolkgdchinaonaaGateLaw
import Derived.Test.YtolkgdchinaonaaHandNew
import Derived.Test.YtolkgdchinaonaaRdAt
import Derived.Test.YtolkgdchinaonaaHandMore
namespace Go.Proofs.Ytolkgdchinaonaa
open Go.RowKit
set_option linter.unusedVariables false
set_option linter.unusedSimpArgs false

def cfgG : Cfg := ⟨2, 1, 1, 0⟩
theorem cfgG_right : cfgG.Right := by constructor <;> decide
def wordsG : List Int := [1, 0, 0, 0, 0, 0, 0, 0, 3, 0, 0, 0, 0]
theorem firstG : firstW cfgG = wordsG := by decide
def sG0 : HS := ⟨cfgG, wordsG, Acc.z⟩
def gaSeq : Nat → MutV × HS
  | 0 => (⟨1, 1, 0, 0, 0, 0, 0, 0, 0, 0, 0, 0, 0⟩, sG0.doIt (aStore 1 1))
  | k + 1 => ((gateM (gaSeq k).2 0 (gaSeq k).1).x, (gateM (gaSeq k).2 0 (gaSeq k).1).s)
def wantG : List Int := [2, 4, 5, 5]
theorem gaSeq_ok : ∀ k, k < 4 → (gaSeq (k + 1)).1.line = wantG.getD k 0 := by
  intro k hk
  have : k = 0 ∨ k = 1 ∨ k = 2 ∨ k = 3 := by omega
  rcases this with rfl | rfl | rfl | rfl <;> decide
def sG5 : HS := (gaSeq 4).2.doIt (aStore 1 0)
def xG6 : MutR := gateM sG5 0 (gaSeq 4).1
def xG7 : MutR := gateM xG6.s 0 xG6.x
theorem xG6_line : xG6.x.line = 6 := by decide
theorem xG7_line : xG7.x.line = 10 := by decide
theorem newG_any (W : World) : Calls Try.prog 38 #[.agg #[.int .i64 2, .int .i64 1, .int .i64 1, .int .i64 0]] W fun e w' => (∃ h ab db, e = .returned (.tuple #[.pointer (some ⟨h, 0, none⟩), .int .i64 0]) ∧ HAt w' h ab db sG0 ∧ W.heap.size ≤ h ∧ W.heap.size ≤ ab ∧ W.heap.size ≤ db) ∧ Fr [] W w' := by
  have h := new_ok (w := W) cfgG_right
  rw [firstG] at h
  exact h
theorem HAt.sized {w : World} {h ab db : Nat} {s : HS} (H : HAt w h ab db s) (a : Acc) : (s.doIt a).ws.length = s.ws.length := Acc.ws_length a s.ws

set_option maxRecDepth 100000 in
set_option maxHeartbeats 4000000 in
theorem awake12_any (w : World) :
    Calls Try.prog 37 #[] w fun e w' => e = .returned (.bool true) ∧ Fr [] w w' := by
  have HS0 := hid (fun (W : World) (h ab db : Nat) (H : HAt W h ab db sG0) => hstore_any H 1 1 (by omega))
  go_enter Try.func37, Try.ntmps37
  go_wp2_with (first | (go_at_call 38; refine (newG_any _).mono ?_; rintro e w3 ⟨⟨h, ab, db, rfl, HH, q1, q2, q3⟩, hFF⟩; (have hSS := fun i (m : i ∈ [h, db]) (l : i < w.heap.size) => (show i ∈ ([] : List Nat) by simp at m; omega))) | (go_at_call 39; refine (HS0.out _ _ _ _ HH).mono ?_; rintro e w4 ⟨rfl, HH, hF2⟩; (replace hFF := hFF.trans_new hF2 hSS)) | (go_at_call 40; refine (gbegin_any 1 0 0 0 _).mono ?_; rintro e w5 ⟨rfl, hF2⟩; (replace HH := HH.kept0 hF2); (replace hFF := hFF.trans hF2)))
  have z3 := hFF.size
  have l1 := HH.blk.lt
  have l2 := HH.ar.dat.lt
  have l3 := HH.ar.hdr.lt
  have hX := (Blk.new w5 (mutCs (gaSeq 0).1) 54).alloc (.cells #[.int .i64 2, .int .i64 4, .int .i64 5, .int .i64 5] 3)
  have hL := Blk.new (w5.alloc (.cells #[.int .i64 1, .int .i64 1, .int .i64 0, .int .i64 0, .int .i64 0, .int .u64 0, .int .u64 0, .int .u64 0, .int .u64 0, .int .u64 0, .int .u64 0, .int .i64 0, .int .i64 0] 54)) [.int .i64 2, .int .i64 4, .int .i64 5, .int .i64 5] 3
  replace HH := (HH.alloc (.cells #[.int .i64 1, .int .i64 1, .int .i64 0, .int .i64 0, .int .i64 0, .int .u64 0, .int .u64 0, .int .u64 0, .int .u64 0, .int .u64 0, .int .u64 0, .int .i64 0, .int .i64 0] 54)).alloc (.cells #[.int .i64 2, .int .i64 4, .int .i64 5, .int .i64 5] 3)
  replace hFF := (hFF.alloc (.cells #[.int .i64 1, .int .i64 1, .int .i64 0, .int .i64 0, .int .i64 0, .int .u64 0, .int .u64 0, .int .u64 0, .int .u64 0, .int .u64 0, .int .u64 0, .int .i64 0, .int .i64 0] 54)).alloc (.cells #[.int .i64 2, .int .i64 4, .int .i64 5, .int .i64 5] 3)
  simp only [World.size_alloc] at hL
  have nX : w5.heap.size ∉ [h, db] := by simp; omega
  have nL : w5.heap.size + 1 ∉ [h, db] := by simp; omega
  have dh1 : h ≠ w5.heap.size := by omega
  have dh2 : db ≠ w5.heap.size := by omega
  have dh3 : ab ≠ w5.heap.size := by omega
  go_loopw [27] (fun i wr => ∃ (k : Nat), k ≤ 4 ∧ i = .int .i64 k ∧ HAt wr h ab db (gaSeq k).2 ∧ Blk wr w5.heap.size 54 (mutCs (gaSeq k).1) ∧ Blk wr (w5.heap.size + 1) 3 [.int .i64 2, .int .i64 4, .int .i64 5, .int .i64 5] ∧ Fr [] w wr) (fun i _ => 4 - (intOf i).toNat)
  case atStart => exact ⟨0, by omega, rfl, HH, hX, hL, hFF⟩
  case round =>
    clear HH hX hL hFF
    obtain ⟨k, hk, rfl, HH, hX, hL, hFF⟩ := hrel
    by_cases hlt : k < 4
    · have hline := gaSeq_ok k hlt
      have HX := fun (W : World) (H : HAt W h ab db (gaSeq k).2) => gate_any H 0 (gaSeq k).1
      have hwl := (hL.cell k).trans (show _ = some (.int .i64 (wantG.getD k 0)) by
        have : k = 0 ∨ k = 1 ∨ k = 2 ∨ k = 3 := by omega
        rcases this with rfl | rfl | rfl | rfl <;> rfl)
      have hwl0 := hid (show ([.int .i64 2, .int .i64 4, .int .i64 5, .int .i64 5] : List Value)[k]? = some (.int .i64 (wantG.getD k 0)) by
        have : k = 0 ∨ k = 1 ∨ k = 2 ∨ k = 3 := by omega
        rcases this with rfl | rfl | rfl | rfl <;> rfl)
      obtain ⟨wa, hwa⟩ : ∃ z, z = wantG.getD k 0 := ⟨_, rfl⟩
      rw [← hwa] at hwl hline hwl0
      rw [show (gateM (gaSeq k).2 0 (gaSeq k).1).x = (gaSeq (k + 1)).1 from rfl, show (gateM (gaSeq k).2 0 (gaSeq k).1).s = (gaSeq (k + 1)).2 from rfl] at HX
      obtain ⟨is2, hi2⟩ : ∃ z, z = (gateM (gaSeq k).2 0 (gaSeq k).1).is := ⟨_, rfl⟩
      rw [← hi2] at HX
      obtain ⟨sk, hsk⟩ : ∃ z, z = (gaSeq k).2 := ⟨_, rfl⟩
      obtain ⟨xk, hxk⟩ : ∃ z, z = (gaSeq k).1 := ⟨_, rfl⟩
      rw [← hxk] at hX
      rw [← hsk] at HH
      rw [← hxk, ← hsk] at HX
      obtain ⟨y, hy⟩ : ∃ z, z = (gaSeq (k + 1)).1 := ⟨_, rfl⟩
      obtain ⟨sy, hsy⟩ : ∃ z, z = (gaSeq (k + 1)).2 := ⟨_, rfl⟩
      rw [← hy] at hline
      rw [← hy, ← hsy] at HX
      replace hy := hid hy
      replace hsy := hid hsy
      clear hwa hsk hxk hi2
      obtain ⟨line, ok, oa, ob, oc, a, b, c, n, t, p, back, ret⟩ := xk
      obtain ⟨line2, ok2, oa2, ob2, oc2, a2, b2, c2, n2, t2, p2, back2, ret2⟩ := y
      simp only at hline
      subst hline
      simp only [MutV.val] at HX
      simp only [mutCs] at hX
      replace HX := hid HX
      have hb2 : (line2 != line2) = false := by simp
      have kX := hX.cell
      have fX := hX.free
      have lX := hX.lt
      go_wp2_with (first | (go_at_call 41; refine (HX.out _ HH).mono ?_; rintro e w6 ⟨rfl, HH, hF2⟩; (replace hX := hX.kept hF2 nX); (replace kX := hX.cell); (replace fX := hX.free); (replace hL := hL.kept hF2 nL); (replace hwl := (hL.cell k).trans hwl0.out); (replace hFF := hFF.trans_new hF2 hSS)))
      replace hX := hX.setM (.int .i64 line2) (.int .i64 ok2) (.int .i64 oa2) (.int .i64 ob2) (.int .i64 oc2) (.int .u64 a2) (.int .u64 b2) (.int .u64 c2) (.int .u64 n2) (.int .u64 t2) (.int .u64 p2) (.int .i64 back2) (.int .i64 ret2)
      go_roundw
      case rel =>
        refine ⟨k + 1, by omega, by go_num, ?_, ?_, ?_, ?_⟩
        · rw [← hsy.out]
          repeat (first | with_reducible exact HH | with_reducible refine HAt.other ?_ dh1 dh3 dh2 _)
        · rw [← hy.out]
          exact hX
        · repeat (first | with_reducible exact hL | with_reducible refine Blk.other ?_ (Nat.succ_ne_self _) _)
        · repeat (first | with_reducible exact hFF | with_reducible refine Fr.setNew ?_ z3 _)
      case measure => simp [intOf]; omega
    · obtain rfl : k = 4 := by omega
      have HS1 := hid (fun (W : World) (h ab db : Nat) (H : HAt W h ab db (gaSeq 4).2) => hstore_any H 1 0 (by omega))
      have HX6 := fun (W : World) (H : HAt W h ab db sG5) => gate_any H 0 (gaSeq 4).1
      have HX7 := fun (W : World) (H : HAt W h ab db xG6.s) => gate_any H 0 xG6.x
      rw [show (gateM sG5 0 (gaSeq 4).1).x = xG6.x from rfl, show (gateM sG5 0 (gaSeq 4).1).s = xG6.s from rfl] at HX6
      rw [show (gateM xG6.s 0 xG6.x).x = xG7.x from rfl] at HX7
      rw [show (gaSeq 4).2.doIt (aStore 1 0) = sG5 from rfl] at HS1
      have e6 := xG6_line
      have e7 := xG7_line
      obtain ⟨i6, hi6⟩ : ∃ z, z = (gateM sG5 0 (gaSeq 4).1).is := ⟨_, rfl⟩
      obtain ⟨i7, hi7⟩ : ∃ z, z = (gateM xG6.s 0 xG6.x).is := ⟨_, rfl⟩
      obtain ⟨s7, hs7⟩ : ∃ z, z = (gateM xG6.s 0 xG6.x).s := ⟨_, rfl⟩
      obtain ⟨s6, hs6⟩ : ∃ z, z = xG6.s := ⟨_, rfl⟩
      obtain ⟨s5, hs5⟩ : ∃ z, z = sG5 := ⟨_, rfl⟩
      obtain ⟨s4, hs4⟩ : ∃ z, z = (gaSeq 4).2 := ⟨_, rfl⟩
      obtain ⟨x4, hx4⟩ : ∃ z, z = (gaSeq 4).1 := ⟨_, rfl⟩
      obtain ⟨x6, hx6⟩ : ∃ z, z = xG6.x := ⟨_, rfl⟩
      obtain ⟨x7, hx7⟩ : ∃ z, z = xG7.x := ⟨_, rfl⟩
      rw [← hi6, ← hs5, ← hx4, ← hs6, ← hx6] at HX6
      rw [← hi7, ← hs7, ← hs6, ← hx6, ← hx7] at HX7
      rw [← hs4, ← hs5] at HS1
      rw [← hs4] at HH
      rw [← hx4] at hX
      rw [← hx6] at e6
      rw [← hx7] at e7
      clear hi6 hi7 hs7 hs6 hs5 hs4 hx4 hx6 hx7
      obtain ⟨line4, ok4, oa4, ob4, oc4, a4, b4, c4, n4, t4, p4, back4, ret4⟩ := x4
      obtain ⟨line6, ok6, oa6, ob6, oc6, a6, b6, c6, n6, t6, p6, back6, ret6⟩ := x6
      obtain ⟨line7, ok7, oa7, ob7, oc7, a7, b7, c7, n7, t7, p7, back7, ret7⟩ := x7
      simp only at e6 e7
      subst e6
      subst e7
      simp only [mutCs] at hX
      simp only [MutV.val] at HX6 HX7
      replace HX6 := hid HX6
      replace HX7 := hid HX7
      have kX := hX.cell
      have fX := hX.free
      have lX := hX.lt
      have lH := HH.blk.lt
      have HIn := fun W => inside_any 6 ok6 oa6 ob6 oc6 a6 b6 c6 n6 t6 p6 back6 ret6 W
      rw [show insideB 6 = true from rfl] at HIn
      replace HIn := hid HIn
      go_wp2_with fail
      go_at_call 39
      refine (HS1.out _ _ _ _ HH).mono ?_
      rintro e w6 ⟨rfl, HH5, hF2⟩
      clear HH
      (replace hX := hX.kept hF2 nX)
      (replace kX := hX.cell)
      (replace fX := hX.free)
      (replace hFF := hFF.trans_new hF2 hSS)
      go_wp2_with fail
      go_at_call 41
      refine (HX6.out _ HH5).mono ?_
      rintro e w7 ⟨rfl, HH6, hF2⟩
      (replace hX := hX.kept hF2 nX)
      (replace kX := hX.cell)
      (replace fX := hX.free)
      (replace hFF := (hFF.trans_new hF2 hSS).setM z3 (.int .i64 6) (.int .i64 ok6) (.int .i64 oa6) (.int .i64 ob6) (.int .i64 oc6) (.int .u64 a6) (.int .u64 b6) (.int .u64 c6) (.int .u64 n6) (.int .u64 t6) (.int .u64 p6) (.int .i64 back6) (.int .i64 ret6))
      (replace HH6 := HH6.setM dh1 dh3 dh2 (.int .i64 6) (.int .i64 ok6) (.int .i64 oa6) (.int .i64 ob6) (.int .i64 oc6) (.int .u64 a6) (.int .u64 b6) (.int .u64 c6) (.int .u64 n6) (.int .u64 t6) (.int .u64 p6) (.int .i64 back6) (.int .i64 ret6))
      (have hX6 := hX.setM (.int .i64 6) (.int .i64 ok6) (.int .i64 oa6) (.int .i64 ob6) (.int .i64 oc6) (.int .u64 a6) (.int .u64 b6) (.int .u64 c6) (.int .u64 n6) (.int .u64 t6) (.int .u64 p6) (.int .i64 back6) (.int .i64 ret6))
      clear HH5
      go_wp2_with fail
      go_at_call 41
      refine (HX7.out _ HH6).mono ?_
      rintro e w8 ⟨rfl, HH7, hF2⟩
      (have lX6 := hX6.lt)
      (have sz7 := hF2.size)
      (replace hX6 := (hX6.kept hF2 nX).alloc (.cells #[.int .i64 10, .int .i64 ok7, .int .i64 oa7, .int .i64 ob7, .int .i64 oc7, .int .u64 a7, .int .u64 b7, .int .u64 c7, .int .u64 n7, .int .u64 t7, .int .u64 p7, .int .i64 back7, .int .i64 ret7] 54))
      (have kX6 := hX6.cell)
      (have hY := Blk.new w8 [.int .i64 10, .int .i64 ok7, .int .i64 oa7, .int .i64 ob7, .int .i64 oc7, .int .u64 a7, .int .u64 b7, .int .u64 c7, .int .u64 n7, .int .u64 t7, .int .u64 p7, .int .i64 back7, .int .i64 ret7] 54)
      (have kY := hY.cell)
      (replace hFF := (hFF.trans_new hF2 hSS).alloc (.cells #[.int .i64 10, .int .i64 ok7, .int .i64 oa7, .int .i64 ob7, .int .i64 oc7, .int .u64 a7, .int .u64 b7, .int .u64 c7, .int .u64 n7, .int .u64 t7, .int .u64 p7, .int .i64 back7, .int .i64 ret7] 54))
      go_wp2_with fail
      go_at_call 42
      refine (HIn.out _).mono ?_
      rintro e w9 ⟨rfl, hF2⟩
      (replace hX6 := hX6.kept hF2 List.not_mem_nil)
      (replace kX6 := hX6.cell)
      (replace hY := hY.kept hF2 List.not_mem_nil)
      (replace kY := hY.cell)
      (replace hFF := hFF.trans hF2)
      go_wp2_with fail
      go_ret
      exact ⟨rfl, hFF⟩

end Go.Proofs.Ytolkgdchinaonaa
