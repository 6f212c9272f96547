/- mudlarklaw14.awake: what the document tells. -/
import Derived.Test.YtolkgdchinaonaaLisp
import Derived.Test.YtolkgdchinaonaaGateLaw
import Derived.Test.YtolkgdchinaonaaHandNew
import Derived.Test.YtolkgdchinaonaaRdAt
import Derived.Test.YtolkgdchinaonaaHandMore
namespace Go.Proofs.Ytolkgdchinaonaa
open Go.RowKit
set_option linter.unusedVariables false
set_option linter.unusedSimpArgs false

def cfgN : Cfg := ⟨2, 1, 1, 0⟩
theorem cfgN_right : cfgN.Right := by constructor <;> decide
def wordsN : List Int := firstW cfgN
def sN0 : HS := ⟨cfgN, wordsN, Acc.z⟩
def MutV.small (x : MutV) : Bool := [x.line, x.ok, x.oa, x.ob, x.oc, x.a, x.b, x.c, x.n, x.t, x.p, x.back, x.ret].all fun a => decide (0 ≤ a) && decide (a ≤ 1000000)
theorem MutV.small_wf {x : MutV} (h : x.small = true) : x.Wf := by
  simp only [MutV.small, List.all_cons, List.all_nil, Bool.and_true, Bool.and_eq_true, decide_eq_true_eq] at h
  constructor <;> omega
def liSeq : Nat → MutV × HS
  | 0 => (⟨1, 1, 0, 5, 0, 0, 0, 0, 0, 0, 0, 0, 0⟩, sN0)
  | k + 1 => ((lispM (liSeq k).2 0 (liSeq k).1).x, (lispM (liSeq k).2 0 (liSeq k).1).s)
theorem liSeq_all : (List.range 5).all (fun k => (liSeq k).1.small && ((lispM (liSeq k).2 0 (liSeq k).1).done == decide (k = 4))) = true := by decide +kernel
theorem liSeq_ok (k : Nat) (hk : k < 5) : (liSeq k).1.small = true ∧ (lispM (liSeq k).2 0 (liSeq k).1).done = decide (k = 4) := by
  have := List.all_eq_true.1 liSeq_all k (List.mem_range.2 hk)
  simpa using this
theorem liSeq_end : (liSeq 5).1.ret = 1 ∧ wAt (liSeq 5).2.ws 6 = 10 := by decide +kernel
theorem stepN (k : Nat) (hk : k < 5) {W : World} {h ab db : Nat} (H : HAt W h ab db (liSeq k).2) : Calls Try.prog 150 #[.pointer (some ⟨h, 0, none⟩), .int .i64 0, (liSeq k).1.val] W fun e w' => e = .returned (.tuple #[(liSeq (k + 1)).1.val, .bool (lispM (liSeq k).2 0 (liSeq k).1).lin, .bool (decide (k = 4))]) ∧ HAt w' h ab db (liSeq (k + 1)).2 ∧ Fr [h, db] W w' := by
  obtain ⟨h1, h2⟩ := liSeq_ok k hk
  have := lisp_any H 0 (liSeq k).1 (MutV.small_wf h1)
  rw [h2] at this
  exact this
theorem newN_any (W : World) : Calls Try.prog 38 #[.agg #[.int .i64 2, .int .i64 1, .int .i64 1, .int .i64 0]] W fun e w' => (∃ h ab db, e = .returned (.tuple #[.pointer (some ⟨h, 0, none⟩), .int .i64 0]) ∧ HAt w' h ab db sN0 ∧ W.heap.size ≤ h ∧ W.heap.size ≤ ab ∧ W.heap.size ≤ db) ∧ Fr [] W w' := new_ok (w := W) cfgN_right
theorem loadN {W : World} {h ab db : Nat} (H : HAt W h ab db (liSeq 5).2) : Calls Try.prog 44 #[.pointer (some ⟨ab, 0, none⟩), .int .i64 6] W fun e w' => e = .returned (.int .u64 10) ∧ W = w' := by
  have := aload H.ar 6
  rw [liSeq_end.2] at this
  exact this

set_option maxRecDepth 100000 in
set_option maxHeartbeats 4000000 in
theorem awake14_any (w : World) :
    Calls Try.prog 65 #[] w fun e w' => e = .returned (.bool true) ∧ Fr [] w w' := by
  go_enter Try.func65, Try.ntmps65
  go_wp2_with (first | (go_at_call 38; refine (newN_any _).mono ?_; rintro e w3 ⟨⟨h, ab, db, rfl, HH, q1, q2, q3⟩, hFF⟩; (have hSS := fun i (m : i ∈ [h, db]) (l : i < w.heap.size) => (show i ∈ ([] : List Nat) by simp at m; omega))) | (go_at_call 40; refine (gbegin_any 1 0 5 0 _).mono ?_; rintro e w5 ⟨rfl, hF2⟩; (replace HH := HH.kept0 hF2); (replace hFF := hFF.trans hF2)))
  have z3 := hFF.size
  have l1 := HH.blk.lt
  have l2 := HH.ar.dat.lt
  have l3 := HH.ar.hdr.lt
  have hX := Blk.new w5 (mutCs (liSeq 0).1) 54
  replace HH := HH.alloc (.cells #[.int .i64 1, .int .i64 1, .int .i64 0, .int .i64 5, .int .i64 0, .int .u64 0, .int .u64 0, .int .u64 0, .int .u64 0, .int .u64 0, .int .u64 0, .int .i64 0, .int .i64 0] 54)
  replace hFF := hFF.alloc (.cells #[.int .i64 1, .int .i64 1, .int .i64 0, .int .i64 5, .int .i64 0, .int .u64 0, .int .u64 0, .int .u64 0, .int .u64 0, .int .u64 0, .int .u64 0, .int .i64 0, .int .i64 0] 54)
  have nX : w5.heap.size ∉ [h, db] := by simp; omega
  have dh1 : h ≠ w5.heap.size := by omega
  have dh2 : db ≠ w5.heap.size := by omega
  have dh3 : ab ≠ w5.heap.size := by omega
  go_loopw [4, 5] (fun d i wr => ∃ (k : Nat), k ≤ 5 ∧ d = .bool (decide (k = 5)) ∧ i = .int .i64 k ∧ HAt wr h ab db (liSeq k).2 ∧ Blk wr w5.heap.size 54 (mutCs (liSeq k).1) ∧ Fr [] w wr) (fun d i _ => 5 - (intOf i).toNat)
  case atStart => exact ⟨0, by omega, rfl, rfl, HH, hX, hFF⟩
  case round =>
    clear HH hX hFF
    obtain ⟨k, hk, rfl, rfl, HH, hX, hFF⟩ := hrel
    by_cases hlt : k < 5
    · have hd : decide (k = 5) = false := by simp; omega
      rw [hd]
      have HX := fun (W : World) (H : HAt W h ab db (liSeq k).2) => stepN k hlt H
      obtain ⟨fl, hfl⟩ : ∃ z, z = (lispM (liSeq k).2 0 (liSeq k).1).lin := ⟨_, rfl⟩
      rw [← hfl] at HX
      clear hfl
      obtain ⟨dn, hdn⟩ : ∃ z, z = decide (k = 4) := ⟨_, rfl⟩
      rw [← hdn] at HX
      replace hdn := hid hdn
      obtain ⟨sk, hsk⟩ : ∃ z, z = (liSeq k).2 := ⟨_, rfl⟩
      obtain ⟨xk, hxk⟩ : ∃ z, z = (liSeq k).1 := ⟨_, rfl⟩
      rw [← hxk] at hX
      rw [← hsk] at HH
      rw [← hxk, ← hsk] at HX
      obtain ⟨y, hy⟩ : ∃ z, z = (liSeq (k + 1)).1 := ⟨_, rfl⟩
      obtain ⟨sy, hsy⟩ : ∃ z, z = (liSeq (k + 1)).2 := ⟨_, rfl⟩
      rw [← hy, ← hsy] at HX
      replace hy := hid hy
      replace hsy := hid hsy
      clear hsk hxk
      obtain ⟨line, ok, oa, ob, oc, a, b, c, n, t, p, back, ret⟩ := xk
      obtain ⟨line2, ok2, oa2, ob2, oc2, a2, b2, c2, n2, t2, p2, back2, ret2⟩ := y
      simp only [MutV.val] at HX
      simp only [mutCs] at hX
      replace HX := hid HX
      have kX := hX.cell
      have fX := hX.free
      have lX := hX.lt
      go_wp2_with (first | (go_at_call 150; refine (HX.out _ HH).mono ?_; rintro e w6 ⟨rfl, HH, hF2⟩; (replace hX := hX.kept hF2 nX); (replace kX := hX.cell); (replace fX := hX.free); (replace hFF := hFF.trans_new hF2 hSS)))
      replace hX := hX.setM (.int .i64 line2) (.int .i64 ok2) (.int .i64 oa2) (.int .i64 ob2) (.int .i64 oc2) (.int .u64 a2) (.int .u64 b2) (.int .u64 c2) (.int .u64 n2) (.int .u64 t2) (.int .u64 p2) (.int .i64 back2) (.int .i64 ret2)
      go_roundw
      case rel =>
        refine ⟨k + 1, by omega, ?_, by go_num, ?_, ?_, ?_⟩
        · rw [hdn.out]; simp
        · rw [← hsy.out]
          repeat (first | with_reducible exact HH | with_reducible refine HAt.other ?_ dh1 dh3 dh2 _)
        · rw [← hy.out]
          exact hX
        · repeat (first | with_reducible exact hFF | with_reducible refine Fr.setNew ?_ z3 _)
      case measure => simp [intOf]; omega
    · obtain rfl : k = 5 := by omega
      have HL := hid (fun (W : World) (h ab db : Nat) (H : HAt W h ab db (liSeq 5).2) => loadN H)
      have hret := liSeq_end.1
      obtain ⟨s5, hs5⟩ : ∃ z, z = (liSeq 5).2 := ⟨_, rfl⟩
      obtain ⟨x5, hx5⟩ : ∃ z, z = (liSeq 5).1 := ⟨_, rfl⟩
      rw [← hs5] at HH HL
      rw [← hx5] at hX hret
      clear hs5 hx5
      obtain ⟨line, ok, oa, ob, oc, a, b, c, n, t, p, back, ret⟩ := x5
      simp only at hret
      subst hret
      simp only [mutCs] at hX
      have kX := hX.cell
      have kH := HH.blk.cell
      have lX := hX.lt
      go_wp2_with (first | (go_at_call 44; refine (HL.out _ _ _ _ HH).mono ?_; rintro e w6 ⟨rfl, rfl⟩))
      go_ret
      exact ⟨rfl, hFF⟩

end Go.Proofs.Ytolkgdchinaonaa
