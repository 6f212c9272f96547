/- mudlarklaw16.awake: what the document tells. -/
import Derived.Test.YtolkgdchinaonaaPaAny
import Derived.Test.YtolkgdchinaonaaGreys
import Derived.Test.YtolkgdchinaonaaCBox
import Derived.Test.YtolkgdchinaonaaHandMore
namespace Go.Proofs.Ytolkgdchinaonaa
open Go.RowKit
set_option linter.unusedVariables false
set_option linter.unusedSimpArgs false

def cfgL : Cfg := ⟨3, 1, 1, 0⟩
theorem cfgL_right : cfgL.Right := by constructor <;> decide
def wordsL : List Int := firstW cfgL
def sL0 : HS := ⟨cfgL, wordsL, Acc.z⟩
def sL1 : HS := sL0.doIt (aStore (cfgL.cellP 2 0) 1)
/-- Small numbers alone. -/
def ColV.small (x : ColV) : Bool := [x.line, x.j, x.c, x.m, x.a, x.p, x.tail, x.cyc].all fun a => decide (0 ≤ a) && decide (a ≤ 1000000)
theorem ColV.small_wf {x : ColV} (h : x.small = true) : x.Wf ∧ x.Near := by
  simp only [ColV.small, List.all_cons, List.all_nil, Bool.and_true, Bool.and_eq_true, decide_eq_true_eq] at h
  exact ⟨by constructor <;> omega, by constructor <;> omega⟩
def paSeq : Nat → ColV × HS
  | 0 => (⟨3, 0, 0, 0, 0, 0, false, 0, 0⟩, sL1)
  | k + 1 => ((passM (paSeq k).2 (paSeq k).1).x, (passM (paSeq k).2 (paSeq k).1).s)
theorem paSeq_all : (List.range 19).all (fun k => (paSeq k).1.small && decide ((paSeq k).1.line ≠ 10)) = true := by decide +kernel
theorem paSeq_ok (k : Nat) (hk : k < 19) : (paSeq k).1.small = true ∧ (paSeq k).1.line ≠ 10 := by
  have := List.all_eq_true.1 paSeq_all k (List.mem_range.2 hk)
  simpa using this
theorem paSeq_end : (paSeq 19).1.line = 10 ∧ wAt (paSeq 19).2.ws (cfgL.cellP 2 0) = 2 ∧ wAt (paSeq 19).2.ws (cfgL.cellP 2 2) = 2 ∧ greysTo cfgL (paSeq 19).2.ws 3 = [] := by decide +kernel
theorem paSeq_c : ∀ k, (paSeq k).2.c = cfgL := by
  intro k
  induction k with
  | zero => rfl
  | succ k ih =>
    show (passM (paSeq k).2 (paSeq k).1).s.c = cfgL
    unfold passM
    repeat (first | exact ih | split)
theorem stepL (k : Nat) (hk : k < 19) {W : World} {h ab db : Nat} (H : HAt W h ab db (paSeq k).2) : Calls Try.prog 55 #[.pointer (some ⟨h, 0, none⟩), (paSeq k).1.val] W fun e w' => e = .returned (.tuple #[(paSeq (k + 1)).1.val, .bool (passM (paSeq k).2 (paSeq k).1).is]) ∧ HAt w' h ab db (paSeq (k + 1)).2 ∧ Fr [h, db] W w' := by
  obtain ⟨h1, h2⟩ := ColV.small_wf (paSeq_ok k hk).1
  exact pa_any H (paSeq k).1 h1 h2
theorem newL_any (W : World) : Calls Try.prog 38 #[.agg #[.int .i64 3, .int .i64 1, .int .i64 1, .int .i64 0]] W fun e w' => (∃ h ab db, e = .returned (.tuple #[.pointer (some ⟨h, 0, none⟩), .int .i64 0]) ∧ HAt w' h ab db sL0 ∧ W.heap.size ≤ h ∧ W.heap.size ≤ ab ∧ W.heap.size ≤ db) ∧ Fr [] W w' := new_ok (w := W) cfgL_right
theorem colL (i : Int) (W : World) : Calls Try.prog 136 #[.agg #[.int .i64 3, .int .i64 1, .int .i64 1, .int .i64 0], .int .i64 i] W fun e w' => e = .returned (.int .i64 (cfgL.cellP 2 i)) ∧ Fr [] W w' := colour_any cfgL_right i W
theorem loadL0 {W : World} {h ab db : Nat} (H : HAt W h ab db (paSeq 19).2) : Calls Try.prog 44 #[.pointer (some ⟨ab, 0, none⟩), .int .i64 (cfgL.cellP 2 0)] W fun e w' => e = .returned (.int .u64 2) ∧ W = w' := by
  have := aload H.ar (cfgL.cellP 2 0)
  rw [paSeq_end.2.1] at this
  exact this
theorem loadL2 {W : World} {h ab db : Nat} (H : HAt W h ab db (paSeq 19).2) : Calls Try.prog 44 #[.pointer (some ⟨ab, 0, none⟩), .int .i64 (cfgL.cellP 2 2)] W fun e w' => e = .returned (.int .u64 2) ∧ W = w' := by
  have := aload H.ar (cfgL.cellP 2 2)
  rw [paSeq_end.2.2.1] at this
  exact this
def OneSlice (n : Nat) (l : List Int) (e : Ending) (w' : World) : Prop := ∃ a cap, e = .returned (.slice a n cap) ∧ RdS w' (.slice a n cap) n (u64s l)
theorem allL {W : World} {h ab db : Nat} {s : HS} (H : HAt W h ab db s) : Calls Try.prog 50 #[.pointer (some ⟨ab, 0, none⟩)] W fun e w' => OneSlice s.ws.length s.ws e w' ∧ Fr [] W w' := by
  refine H.allD.mono ?_
  rintro e w' ⟨⟨g, cap, ext, rfl, hD, _⟩, hF⟩
  exact ⟨⟨_, _, rfl, hD.rds⟩, hF⟩
theorem greysL {W : World} {h ab db : Nat} (H : HAt W h ab db (paSeq 19).2) {a : Option Addr} {cap : Nat} (hv : RdS W (.slice a (paSeq 19).2.ws.length cap) (paSeq 19).2.ws.length (u64s (paSeq 19).2.ws)) :
    Calls Try.prog 142 #[.agg #[.int .i64 3, .int .i64 1, .int .i64 1, .int .i64 0], .slice a (paSeq 19).2.ws.length cap] W fun e w' => (∃ b cap2, e = .returned (.slice b 0 cap2)) ∧ Fr [] W w' := by
  have hl := H.len
  rw [paSeq_c 19] at hl
  refine (greys_any (c := cfgL) cfgL_right _ (paSeq 19).2.ws hv hl).mono ?_
  rintro e w' ⟨⟨u, rfl, hr⟩, hF⟩
  rw [show cfgL.cells.toNat = 3 from rfl, paSeq_end.2.2.2] at hr
  obtain ⟨b, cap2, rfl, _⟩ := hr.elim
  exact ⟨⟨_, _, rfl⟩, hF⟩
def colCsL (x : ColV) : List Value := [.int .i64 x.line, .int .i64 x.j, .int .i64 x.c, .int .i64 x.m, .int .u64 x.a, .int .u64 x.p, .bool x.found, .int .i64 x.tail, .int .i64 x.cyc]

set_option maxRecDepth 100000 in
set_option maxHeartbeats 8000000 in
theorem awake16_any (w : World) :
    Calls Try.prog 54 #[] w fun e w' => e = .returned (.bool true) ∧ Fr [] w w' := by
  obtain ⟨p0, hp0⟩ : ∃ z, z = cfgL.cellP 2 0 := ⟨_, rfl⟩
  obtain ⟨p2, hp2⟩ : ∃ z, z = cfgL.cellP 2 2 := ⟨_, rfl⟩
  have HC0 := hid (fun W => colL 0 W)
  have HC2 := hid (fun W => colL 2 W)
  have HL0 := hid (fun (W : World) (h ab db : Nat) (H : HAt W h ab db (paSeq 19).2) => loadL0 H)
  have HL2 := hid (fun (W : World) (h ab db : Nat) (H : HAt W h ab db (paSeq 19).2) => loadL2 H)
  have HS1 : Hid (sL0.doIt (aStore p0 1) = (paSeq 0).2) := by rw [hp0]; rfl
  rw [← hp0] at HC0 HL0
  rw [← hp2] at HC2 HL2
  clear hp0 hp2
  go_enter Try.func54, Try.ntmps54
  have hB := Blk.new w [.int .i64 3, .int .i64 1, .int .i64 1, .int .i64 0] 45
  have hFF := (Fr.refl [] w).alloc (.cells #[.int .i64 3, .int .i64 1, .int .i64 1, .int .i64 0] 45)
  have kB := hB.cell
  have lB := hB.lt
  go_wp2_with (first | (go_at_call 38; refine (newL_any _).mono ?_; rintro e w1 ⟨⟨h, ab, db, rfl, HH, q1, q2, q3⟩, hF2⟩; (have hSS := fun i (m : i ∈ [h, db]) (l : i < w.heap.size) => (show i ∈ ([] : List Nat) by simp at m q1 q3; omega)); (have nB : w.heap.size ∉ [h, db] := by simp at q1 q3; simp; omega); (replace hB := hB.kept hF2 (by simp)); (replace hFF := hFF.trans hF2); (have kH := HH.cellsC (c := (⟨3, 1, 1, 0⟩ : Cfg)) rfl)) | (go_at_call 136; refine (HC0.out _).mono ?_; rintro e w2 ⟨rfl, hF2⟩; (replace HH := HH.kept0 hF2); (replace hB := hB.kept hF2 (by simp)); (replace hFF := hFF.trans hF2)) | (go_at_call 39; refine (hstore_any HH _ _ (by omega)).mono ?_; rintro e w3 ⟨rfl, HH, hF2⟩; (replace hB := hB.kept hF2 nB); (replace hFF := hFF.trans_new hF2 hSS)))
  rw [HS1.out] at HH
  have z3 := hFF.size
  clear hF2 kH kB q1 q2 q3
  have l1 := HH.blk.lt
  have l2 := HH.ar.dat.lt
  have l3 := HH.ar.hdr.lt
  have lb := hB.lt
  have hX := Blk.new w3 (colCsL (paSeq 0).1) 81
  replace HH := HH.alloc (.cells #[.int .i64 3, .int .i64 0, .int .i64 0, .int .i64 0, .int .u64 0, .int .u64 0, .bool false, .int .i64 0, .int .i64 0] 81)
  replace hB := hB.alloc (.cells #[.int .i64 3, .int .i64 0, .int .i64 0, .int .i64 0, .int .u64 0, .int .u64 0, .bool false, .int .i64 0, .int .i64 0] 81)
  replace hFF := hFF.alloc (.cells #[.int .i64 3, .int .i64 0, .int .i64 0, .int .i64 0, .int .u64 0, .int .u64 0, .bool false, .int .i64 0, .int .i64 0] 81)
  have nX : w3.heap.size ∉ [h, db] := by simp; omega
  have dB : w.heap.size ≠ w3.heap.size := by omega
  go_loopw [5] (fun i wr => ∃ (k : Nat), k ≤ 19 ∧ i = .int .i64 k ∧ HAt wr h ab db (paSeq k).2 ∧ Blk wr w3.heap.size 81 (colCsL (paSeq k).1) ∧ Blk wr w.heap.size 45 [.int .i64 3, .int .i64 1, .int .i64 1, .int .i64 0] ∧ Fr [] w wr) (fun i _ => 19 - (intOf i).toNat)
  case atStart => exact ⟨0, by omega, rfl, HH, hX, hB, hFF⟩
  case round =>
    clear HH hX hB hFF
    obtain ⟨k, hk, rfl, HH, hX, hB, hFr⟩ := hrel
    have h60 : (k : Int) < 60 := by omega
    by_cases hlt : k < 19
    · have hln := (paSeq_ok k hlt).2
      have HX := fun (W : World) (H : HAt W h ab db (paSeq k).2) => stepL k hlt H
      obtain ⟨fl, hfl⟩ : ∃ z, z = (passM (paSeq k).2 (paSeq k).1).is := ⟨_, rfl⟩
      rw [← hfl] at HX
      clear hfl
      obtain ⟨sk, hsk⟩ : ∃ z, z = (paSeq k).2 := ⟨_, rfl⟩
      obtain ⟨xk, hxk⟩ : ∃ z, z = (paSeq k).1 := ⟨_, rfl⟩
      rw [← hxk] at hX hln
      rw [← hsk] at HH
      rw [← hxk, ← hsk] at HX
      obtain ⟨y, hy⟩ : ∃ z, z = (paSeq (k + 1)).1 := ⟨_, rfl⟩
      obtain ⟨sy, hsy⟩ : ∃ z, z = (paSeq (k + 1)).2 := ⟨_, rfl⟩
      rw [← hy, ← hsy] at HX
      replace hy := hid hy
      replace hsy := hid hsy
      clear hsk hxk
      obtain ⟨line, j, c, m, a, p, found, tail, cyc⟩ := xk
      obtain ⟨line2, j2, c2, m2, a2, p2', found2, tail2, cyc2⟩ := y
      simp only [ColV.val, colCsL] at HX hX hln
      replace HX := hid HX
      have hb2 : (line != 10) = true := by simpa using hln
      replace hln := hid hln
      have kX := hX.cell
      have lr1 := HH.blk.lt
      have lr2 := hX.lt
      have fX := hX.free
      go_wp2_with (first | (go_at_call 55; refine (HX.out _ HH).mono ?_; rintro e w5 ⟨rfl, HH, hF2⟩; (replace hX := hX.kept hF2 nX); (replace hB := hB.kept hF2 nB); (replace fX := hX.free); (replace kX := hX.cell); (replace hFr := hFr.trans_new hF2 hSS)))
      replace hX := hX.set9 (.int .i64 line2) (.int .i64 j2) (.int .i64 c2) (.int .i64 m2) (.int .u64 a2) (.int .u64 p2') (.bool found2) (.int .i64 tail2) (.int .i64 cyc2)
      go_roundw
      case rel =>
        refine ⟨k + 1, by omega, by go_num, ?_, ?_, ?_, ?_⟩
        · rw [← hsy.out]
          have a1 : h ≠ w3.heap.size := by omega
          have a2 : db ≠ w3.heap.size := by omega
          have a3 : ab ≠ w3.heap.size := by omega
          repeat (first | with_reducible exact HH | with_reducible refine HAt.other ?_ a1 a3 a2 _)
        · rw [← hy.out]
          exact hX
        · repeat (first | with_reducible exact hB | with_reducible refine Blk.other ?_ dB _)
        · repeat (first | with_reducible exact hFr | with_reducible refine Fr.setNew ?_ z3 _)
      case measure => simp [intOf]; omega
    · obtain rfl : k = 19 := by omega
      have e1 := paSeq_end.1
      obtain ⟨xk, hxk⟩ : ∃ z, z = (paSeq 19).1 := ⟨_, rfl⟩
      have HG := hid (fun (W : World) (H : HAt W h ab db (paSeq 19).2) (a : Option Addr) (cap : Nat) (hv : RdS W (.slice a (paSeq 19).2.ws.length cap) (paSeq 19).2.ws.length (u64s (paSeq 19).2.ws)) => greysL H hv)
      have hcc := paSeq_c 19
      obtain ⟨sk, hsk⟩ : ∃ z, z = (paSeq 19).2 := ⟨_, rfl⟩
      rw [← hxk] at hX e1
      rw [← hsk] at HH HL0 HL2 HG hcc
      obtain ⟨nn, hnn⟩ : ∃ z, z = sk.ws.length := ⟨_, rfl⟩
      have HA := hid (fun (W : World) (H : HAt W h ab db sk) => allL H)
      rw [← hnn] at HA HG
      clear hxk hsk hnn
      have hcc2 : sk.c = ⟨3, 1, 1, 0⟩ := hcc
      replace hcc := hid hcc2
      clear hcc2
      obtain ⟨line, j, c, m, a, p, found, tail, cyc⟩ := xk
      simp only at e1
      subst e1
      simp only [colCsL] at hX
      have kX := hX.cell
      go_wp2_with fail
      replace HH := HH.drew
      replace hX := hX.drew
      replace hB := hB.drew
      replace hFr := hFr.drew
      replace kX := hX.cell
      have kB := hB.cell
      have kH := HH.cellsC hcc.out
      go_region_held3 (fun w' => w'.cell? ⟨w3.heap.size, 0, none⟩ = some (.int .i64 10) ∧ w'.cell? ⟨h, 0, none⟩ = some (.pointer (some ⟨ab, 0, none⟩)) ∧ w'.cell? ⟨h, 1, none⟩ = some (.int .i64 3) ∧ w'.cell? ⟨h, 2, none⟩ = some (.int .i64 1) ∧ w'.cell? ⟨h, 3, none⟩ = some (.int .i64 1) ∧ w'.cell? ⟨h, 4, none⟩ = some (.int .i64 0) ∧ w'.cell? ⟨w.heap.size, 0, none⟩ = some (.int .i64 3) ∧ w'.cell? ⟨w.heap.size, 1, none⟩ = some (.int .i64 1) ∧ w'.cell? ⟨w.heap.size, 2, none⟩ = some (.int .i64 1) ∧ w'.cell? ⟨w.heap.size, 3, none⟩ = some (.int .i64 0)) (go_keep)
        (first | (go_at_call 136; (with_reducible refine (HC0.out _).mono ?_); rintro e w5 ⟨rfl, hF2⟩; (replace hX := hX.kept hF2 (by simp)); (replace hB := hB.kept hF2 (by simp)); (replace HH := HH.kept0 hF2); (replace kX := hX.cell); (replace kB := hB.cell); (replace kH := HH.cellsC hcc.out); (replace hFr := hFr.trans hF2)) | (go_at_call 136; (with_reducible refine (HC2.out _).mono ?_); rintro e w5 ⟨rfl, hF2⟩; (replace hX := hX.kept hF2 (by simp)); (replace hB := hB.kept hF2 (by simp)); (replace HH := HH.kept0 hF2); (replace kX := hX.cell); (replace kB := hB.cell); (replace kH := HH.cellsC hcc.out); (replace hFr := hFr.trans hF2)) | (go_at_call 44; (with_reducible refine (HL0.out _ _ _ _ HH).mono ?_); rintro e w7 ⟨rfl, rfl⟩) | (go_at_call 44; (with_reducible refine (HL2.out _ _ _ _ HH).mono ?_); rintro e w7 ⟨rfl, rfl⟩) | (go_at_call 50; refine (HA.out _ HH).mono ?_; rintro e w8 ⟨⟨a, cap, rfl, hr⟩, hF2⟩; (replace hX := hX.kept hF2 (by simp)); (replace hB := hB.kept hF2 (by simp)); (replace HH := HH.kept0 hF2); (replace kX := hX.cell); (replace kB := hB.cell); (replace kH := HH.cellsC hcc.out); (replace hFr := hFr.trans hF2)) | (go_at_call 142; refine (HG.out _ HH _ _ hr).mono ?_; rintro e w9 ⟨⟨b, cap2, rfl⟩, hF2⟩; (replace hX := hX.kept hF2 (by simp)); (replace hB := hB.kept hF2 (by simp)); (replace HH := HH.kept0 hF2); (replace kX := hX.cell); (replace kB := hB.cell); (replace kH := HH.cellsC hcc.out); (replace hFr := hFr.trans hF2)))
      go_wp2
      go_ret
      exact ⟨rfl, hFr⟩

end Go.Proofs.Ytolkgdchinaonaa
