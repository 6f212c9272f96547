/- mudlarklaw16.PassMarks: the walk. -/
import Derived.Test.YtolkgdchinaonaaPassMP
import Derived.Test.YtolkgdchinaonaaPassQP
import Derived.Test.YtolkgdchinaonaaRdAt
import Derived.Test.YtolkgdchinaonaaPaAny
import Derived.Test.YtolkgdchinaonaaAwake16
import Derived.Test.YtolkgdchinaonaaCBox
import Derived.Test.YtolkgdchinaonaaHandMore
import Derived.Test.YtolkgdchinaonaaLaw10
import Derived.Test.YtolkgdchinaonaaNear
import Derived.Test.YtolkgdchinaonaaAtAll
namespace Go.Proofs.Ytolkgdchinaonaa
open Go.RowKit
set_option linter.unusedVariables false
set_option linter.unusedSimpArgs false

/-- The greys of words that have none. -/
theorem greysTo_zero {c : Cfg} {l : List Int} (h : ∀ i, 0 ≤ i → i < c.cells → wAt l (c.cellP 2 i) ≠ 1) (n : Nat) (hn : (n : Int) ≤ c.cells) : greysTo c l n = [] := by
  induction n with
  | zero => rfl
  | succ n ih => rw [greysTo_n (h n (by omega) (by omega))]; exact ih (by omega)
theorem rgreys_zero {w : World} {c : Cfg} (hR : c.Right) (v : Value) (l : List Int) (hv : RdS w v l.length (u64s l)) (hn : (l.length : Int) = c.words) (hz : ∀ i, 0 ≤ i → i < c.cells → wAt l (c.cellP 2 i) ≠ 1) :
    Calls Try.prog 56 #[c.val, v] w fun e w' => (∃ a cap, e = .returned (.slice a 0 cap)) ∧ Fr [] w w' := by
  have h0 := hR.c0
  refine (rgreys_any hR v l hv hn).mono ?_
  rintro e w' ⟨⟨u, rfl, hr⟩, hF⟩
  obtain ⟨a, cap, rfl, _⟩ := hr.elim
  rw [greysTo_zero hz _ (by omega)]
  exact ⟨⟨_, _, rfl⟩, hF⟩
theorem mk_K {c : Cfg} (hR : c.Right) : 0 ≤ (c.cells + 1) * (6 * c.cells + 1) ∧ (c.cells + 1) * (6 * c.cells + 1) ≤ 4097 * 24577 := by
  have := hR.c0
  have := hR.c1
  exact ⟨Int.mul_nonneg (by omega) (by omega), Int.mul_le_mul (by omega) (by omega) (by omega) (by omega)⟩
theorem mk_col {c : Cfg} (hA : 5 ≤ c.cA) {l ws : List Int} (h : MkW c l ws) (hg : ∀ i, 0 ≤ i → i < c.cells → wAt ws (c.cellP 2 i) ≠ 1) (k : Int) (h2 : k ≠ 2) :
    wAt ws k = wAt l k ∨ ((wAt l k = 0 ∨ wAt l k = 1) ∧ wAt ws k = 2 ∧ (c.cA ≤ k ∧ (k - c.cA) % 3 = 2 ∧ wAt ws (k - 2) = wAt l (k - 2) ∧ wAt ws (k - 1) = wAt l (k - 1)) ∧ NotW c ws (wAt l (k - 2)) ∧ NotW c ws (wAt l (k - 1))) := by
  by_cases hk : ∃ i, 0 ≤ i ∧ i < c.cells ∧ k = c.cellP 2 i
  · obtain ⟨i, h0, h1, rfl⟩ := hk
    have e2 := cellP_eq (c := c) (p := 2) ⟨h0, h1⟩
    have e1 := cellP_eq (c := c) (p := 1) ⟨h0, h1⟩
    have e0 := cellP_eq (c := c) (p := 0) ⟨h0, h1⟩
    rcases h.col i h0 h1 with q | q | q
    · exact .inl q
    · exact absurd q.2 (hg i h0 h1)
    · right
      obtain ⟨n1, n2⟩ := h.nw i h0 h1 q.2 (by omega)
      have f0 : c.cellP 2 i - 2 = c.cellP 0 i := by omega
      have f1 : c.cellP 2 i - 1 = c.cellP 1 i := by omega
      rw [f0, f1]
      refine ⟨q.1, q.2, ⟨by omega, by omega, ?_, ?_⟩, n1, n2⟩
      · by_cases hz : c.cellP 0 i = 2
        · exfalso
          omega
        · refine h.low _ hz (fun j j0 j1 => ?_)
          rw [e0, cellP_eq ⟨j0, j1⟩]; omega
      · by_cases hz : c.cellP 1 i = 2
        · exfalso; omega
        · refine h.low _ hz (fun j j0 j1 => ?_)
          rw [e1, cellP_eq ⟨j0, j1⟩]; omega
  · exact .inl (h.low k h2 (fun i h0 h1 e => hk ⟨i, h0, h1, e⟩))
set_option maxRecDepth 100000 in
set_option maxHeartbeats 8000000 in
theorem passMarks_any (c : Cfg) (v : Value) (l : List Int) (w : World) (hv : RdS w v l.length (u64s l)) (hl : l.length ≤ 35184372088832) (hwf : ∀ y, y ∈ l → 0 ≤ y ∧ y < 18446744073709551616) :
    Calls Try.prog 11 #[c.val, v] w fun e w' => e = .returned (.bool true) ∧ Fr [] w w' := by
  obtain ⟨ua, uc, rfl, hu⟩ := hv.elim
  clear hu
  by_cases hbo : bothOk c l.length
  case neg =>
    have HBo := fun W (f : Fr [] w W) => hid (both_no (w := W) c _ l (hv.kept0 f) hbo hl)
    clear hv hbo hl hwf
    obtain ⟨cc, cm, cr, cg⟩ := c
    go_enter Try.func11, Try.ntmps11
    have hB := Blk.new w [.int .i64 cc, .int .i64 cm, .int .i64 cr, .int .i64 cg] 45
    have kB := hB.cell
    have hFF := (Fr.refl [] w).alloc (.cells #[.int .i64 cc, .int .i64 cm, .int .i64 cr, .int .i64 cg] 45)
    go_wp2_with (first | (go_at_call 54; refine (awake16_any _).mono ?_; rintro e w2 ⟨rfl, hF2⟩; (replace hB := hB.kept hF2 List.not_mem_nil); (replace kB := hB.cell); (replace hFF := hFF.trans hF2)) | (go_at_call 47; refine (HBo _ hFF).out.mono ?_; rintro e w5 ⟨rfl, hF2⟩; (replace hB := hB.kept hF2 List.not_mem_nil); (replace kB := hB.cell); (replace hFF := hFF.trans hF2)))
    go_ret
    exact ⟨rfl, hFF⟩
  obtain ⟨hgr, hR, hlen⟩ := hbo
  have hpos := hR.words_pos
  have HBo := fun W (f : Fr [] w W) => hid (both_ok (w := W) hgr hR _ l (hv.kept0 f) hlen hwf)
  obtain ⟨lb, lo, rfl, lbl⟩ := hv.base (by omega)
  have hL := hv
  have n_hL : ∀ h db, w.heap.size ≤ h → w.heap.size ≤ db → ∀ b, Value.ownBlock (.slice (some ⟨lb, lo, none⟩) l.length uc) = some b → b ∉ [h, db] := by
    intro h db e1 e2 b hb; cases hb; simp; omega
  have HSt := hid (fun (n p : Nat) (s : HS) (x : ColV) (h : MkAt c l n p s x) (hx : x.line ≠ 10) => h.step hR hlen hx)
  have HWf := hid (fun (n p : Nat) (s : HS) (x : ColV) (h : MkAt c l n p s x) => h.wf hR (wAt_in hwf))
  have HBd := hid (fun (n p : Nat) (s : HS) (x : ColV) (h : MkAt c l n p s x) (hx : x.line ≠ 10) => h.bds hR hx)
  have HFi := hid (fun (s : HS) (hc : s.c = c) (hw : s.ws = l) => MkAt.first hR l hc hw)
  have HIs := hid (fun (k : Int) W => rIsCell_any (wAt l k) (wAt_in hwf k).1 (wAt_in hwf k).2 W)
  have HAtc := hid (fun (i : Int) W => rAtAll_any hR 6 2 i rfl (by omega) W)
  have HGn := hid (fun (now : List Int) (hl2 : now.length = l.length) (hz : ∀ i, 0 ≤ i → i < c.cells → wAt now (c.cellP 2 i) ≠ 1) W v (h : RdS W v now.length (u64s now)) => rgreys_zero (w := W) hR v now h (by rw [hl2]; exact hlen) hz)
  have hK := mk_K hR
  have HcA5 := hid (cA_lo hR)
  obtain ⟨s0, hs0⟩ : ∃ s : HS, s = ⟨c, l, Acc.z⟩ := ⟨_, rfl⟩
  have hw0 := hid (show s0.ws = l by rw [hs0])
  have hcc := hid (show s0.c = c by rw [hs0])
  replace hs0 := hid hs0
  have hc1 := hR.c0
  have hc2 := hR.c1
  have hcA := cA_bd hR
  have hcw := cA_words c
  obtain ⟨nn, hnn⟩ : ∃ z, z = l.length := ⟨_, rfl⟩
  rw [← hnn] at hL n_hL hlen HBo ⊢
  have hnn2 : nn ≤ 20000 := by omega
  have hnw : (nn : Int) - 3 * c.cells = c.cA := by omega
  replace hnn := hid hnn
  obtain ⟨ca, hca⟩ : ∃ z, z = c.cA := ⟨_, rfl⟩
  rw [← hca] at hcA hnw
  replace hca := hid hca
  clear hcw
  replace hlen := hid hlen
  clear hv hl hpos
  obtain ⟨K, hKe⟩ : ∃ K, K = (c.cells + 1) * (6 * c.cells + 1) := ⟨_, rfl⟩
  rw [← hKe] at hK
  have hKw : IntKind.i64.wrap ((c.cells + 1) * (6 * c.cells + 1)) = K := by rw [← hKe]; exact w64 _ (by omega)
  replace hKe := hid hKe
  obtain ⟨cc, cm, cr, cg⟩ := c
  simp only at hc1 hc2 hnw
  go_enter Try.func11, Try.ntmps11
  have hB := Blk.new w [.int .i64 cc, .int .i64 cm, .int .i64 cr, .int .i64 cg] 45
  have kB := hB.cell
  have hFF := (Fr.refl [] w).alloc (.cells #[.int .i64 cc, .int .i64 cm, .int .i64 cr, .int .i64 cg] 45)
  go_wp2_with (first | (go_at_call 54; refine (awake16_any _).mono ?_; rintro e w2 ⟨rfl, hF2⟩; (replace hB := hB.kept hF2 List.not_mem_nil); (replace kB := hB.cell); (replace hFF := hFF.trans hF2)) | (go_at_call 47; refine (HBo _ hFF).out.mono ?_; rintro e w5 ⟨⟨h, ab, db, r, rd, cap, ext, rfl, HH, HR, q1, q2, q3, q4, q5, d1, d2, d3, d4, d5, d6⟩, hF2⟩; (replace HH := HH.to hs0.out.symm); clear HR d1 d2 d3 d4 d5 d6 q4 q5; (replace hL := hL.kept0 (hFF.trans hF2)); (have lBB := hB.lt); (replace hB := hB.kept hF2 List.not_mem_nil); (replace kB := hB.cell); (have nB : w.heap.size ∉ [h, db] := by simp; omega); (have hSS := fun i (m : i ∈ [h, db]) (l : i < w.heap.size) => (show i ∈ ([] : List Nat) by simp at m; omega)); (have sF := hFF.size); (have zz1 := Nat.le_trans sF q1); (have zz2 := Nat.le_trans sF q2); (have zz3 := Nat.le_trans sF q3); (replace hFF := hFF.trans hF2); (have kH := HH.cellsC hcc.out)))
  replace n_hL := n_hL h db zz1 zz3
  try simp only at hKw
  have l1 := HH.blk.lt
  have l2 := HH.ar.hdr.lt
  have l3 := HH.ar.dat.lt
  have sF := hFF.size
  have hst : MkAt ⟨cc, cm, cr, cg⟩ l 0 0 s0 ⟨3, 0, 0, 0, 0, 0, false, 0, 0⟩ := HFi.out s0 hcc.out hw0.out
  obtain ⟨X, hXe⟩ : ∃ X, X = w5.heap.size := ⟨_, rfl⟩
  have hX := Blk.new w5 [.int .i64 3, .int .i64 0, .int .i64 0, .int .i64 0, .int .u64 0, .int .u64 0, .bool false, .int .i64 0, .int .i64 0] 81
  replace hFF := hFF.alloc (.cells #[.int .i64 3, .int .i64 0, .int .i64 0, .int .i64 0, .int .u64 0, .int .u64 0, .bool false, .int .i64 0, .int .i64 0] 81)
  replace HH := HH.alloc (.cells #[.int .i64 3, .int .i64 0, .int .i64 0, .int .i64 0, .int .u64 0, .int .u64 0, .bool false, .int .i64 0, .int .i64 0] 81)
  replace hB := hB.alloc (.cells #[.int .i64 3, .int .i64 0, .int .i64 0, .int .i64 0, .int .u64 0, .int .u64 0, .bool false, .int .i64 0, .int .i64 0] 81)
  replace hL := hL.alloc (.cells #[.int .i64 3, .int .i64 0, .int .i64 0, .int .i64 0, .int .u64 0, .int .u64 0, .bool false, .int .i64 0, .int .i64 0] 81)
  rw [← hXe] at hX ⊢
  have n1 : h ≠ X := by omega
  have n2 : ab ≠ X := by omega
  have n3 : db ≠ X := by omega
  have nX : X ∉ [h, db] := by simp; omega
  have dB : w.heap.size ≠ X := by omega
  have t0 : w.heap.size ≤ X := by omega
  have d_hL : Value.ownBlock (.slice (some ⟨lb, lo, none⟩) nn uc) ≠ some X := by intro e; have e2 : lb = X := Option.some.inj e; omega
  clear hXe l1 l2 l3 sF zz1 zz2 zz3 kB kH HBo hcc HFi
  go_loopw [9, 10] (fun ip i wr => ∃ (n np : Nat) (s : HS) (x : ColV), i = .int .i64 n ∧ ip = .int .i64 np ∧ MkAt ⟨cc, cm, cr, cg⟩ l n np s x ∧ HAt wr h ab db s ∧ Blk wr X 81 [.int .i64 x.line, .int .i64 x.j, .int .i64 x.c, .int .i64 x.m, .int .u64 x.a, .int .u64 x.p, .bool x.found, .int .i64 x.tail, .int .i64 x.cyc] ∧ Blk wr w.heap.size 45 [.int .i64 cc, .int .i64 cm, .int .i64 cr, .int .i64 cg] ∧ RdS wr (.slice (some ⟨lb, lo, none⟩) nn uc) nn (u64s l) ∧ Fr [] w wr) (fun _ i _ => K.toNat - (intOf i).toNat)
  case atStart => exact ⟨0, 0, s0, ⟨3, 0, 0, 0, 0, 0, false, 0, 0⟩, rfl, rfl, hst, HH, hX, hB, hL, hFF⟩
  case round =>
    clear HH hX hB hL hFF hst
    obtain ⟨n, np, s, x, rfl, rfl, hA, HH, hX, hB, hL, hFF⟩ := hrel
    have kB := hB.cell
    by_cases hln : x.line = 10
    case neg =>
      obtain ⟨wf, nr⟩ := HWf.out n np s x hA
      obtain ⟨his, hA2⟩ := HSt.out n np s x hA hln
      obtain ⟨bp, bn⟩ := HBd.out n np s x hA hln
      rw [← hKe.out] at bn
      have HX := fun (W : World) (H : HAt W h ab db s) => pa_any H x wf nr
      rw [his] at HX
      obtain ⟨s2, hs2⟩ : ∃ z, z = (passM s x).s := ⟨_, rfl⟩
      obtain ⟨y, hy⟩ : ∃ z, z = (passM s x).x := ⟨_, rfl⟩
      rw [← hs2, ← hy] at HX hA2
      clear hs2 hy wf nr hA his
      have hK0 := hK.1
      have hK1 := hK.2
      have bn2 : (n : Int) ≤ K := by omega
      by_cases h3 : x.line = 3
      · rw [if_pos h3] at hA2 bp
        try simp only at bp
        have bp2 : (np : Int) ≤ cc := by omega
        replace hA2 := hid hA2
        obtain ⟨line, j, c, m, a, p, found, tail, cyc⟩ := x
        obtain ⟨line2, j2, c2, m2, a2, p2, found2, tail2, cyc2⟩ := y
        simp only [ColV.val] at HX
        simp only at h3 hX hln
        subst h3
        clear bp hln
        replace HX := hid HX
        have kX := hX.cell
        have fX := hX.free
        have d0 := hFF.size
        have lX := hX.lt
        go_wp2_with (first | (go_at_call 55; refine (HX.out _ HH).mono ?_; rintro e w8 ⟨rfl, HH, hF2⟩; (replace hX := hX.kept hF2 nX); (replace kX := hX.cell); (replace fX := hX.free); (replace hB := hB.kept hF2 nB); (replace kB := hB.cell); (replace hL := hL.kept hF2 n_hL); (replace hFF := hFF.trans_new hF2 hSS); (have kBA := (hB.alloc (.cells #[.int .i64 line2, .int .i64 j2, .int .i64 c2, .int .i64 m2, .int .u64 a2, .int .u64 p2, .bool found2, .int .i64 tail2, .int .i64 cyc2] 81)).cell); (have hX1 := hX.alloc (.cells #[.int .i64 line2, .int .i64 j2, .int .i64 c2, .int .i64 m2, .int .u64 a2, .int .u64 p2, .bool found2, .int .i64 tail2, .int .i64 cyc2] 81)); (have kX1 := hX1.cell); (have fX1 := hX1.free); (have lX8 := hX.lt); (have dx1 : ¬ X = w8.heap.size := by omega); (have dx2 : ¬ w8.heap.size = X := by omega)))
        replace hX := (hX.set9 (.int .i64 line2) (.int .i64 j2) (.int .i64 c2) (.int .i64 m2) (.int .u64 a2) (.int .u64 p2) (.bool found2) (.int .i64 tail2) (.int .i64 cyc2)).alloc (.cells #[.int .i64 line2, .int .i64 j2, .int .i64 c2, .int .i64 m2, .int .u64 a2, .int .u64 p2, .bool found2, .int .i64 tail2, .int .i64 cyc2] 81)
        go_roundw
        case rel =>
          refine ⟨n + 1, np + 1, s2, ⟨line2, j2, c2, m2, a2, p2, found2, tail2, cyc2⟩, by go_num, by go_num, hA2.out, ?_, hX, ?_, ?_, ?_⟩
          · refine HAt.alloc ?_ _
            repeat (first | with_reducible exact HH | with_reducible refine HAt.other ?_ n1 n2 n3 _)
          · refine Blk.alloc ?_ _
            repeat (first | with_reducible exact hB | with_reducible refine Blk.other ?_ dB _)
          · refine RdS.alloc ?_ _
            repeat (first | with_reducible exact hL | with_reducible refine RdS.other ?_ d_hL _)
          · refine Fr.alloc ?_ _
            repeat (first | with_reducible exact hFF | with_reducible refine Fr.setNew ?_ t0 _)
        case measure => simp [intOf]; omega
      · rw [if_neg h3] at hA2 bp
        replace hA2 := hid hA2
        obtain ⟨line, j, c, m, a, p, found, tail, cyc⟩ := x
        obtain ⟨line2, j2, c2, m2, a2, p2, found2, tail2, cyc2⟩ := y
        simp only [ColV.val] at HX
        simp only at h3 hX hln bp
        have b1 : (line == 3) = false := beq_eq_false_iff_ne.2 h3
        have b2 : (line != 10) = true := by simpa using hln
        clear h3 hln
        replace HX := hid HX
        have kX := hX.cell
        have fX := hX.free
        have d0 := hFF.size
        have lX := hX.lt
        go_wp2_with (first | (go_at_call 55; refine (HX.out _ HH).mono ?_; rintro e w8 ⟨rfl, HH, hF2⟩; (replace hX := hX.kept hF2 nX); (replace kX := hX.cell); (replace fX := hX.free); (replace hB := hB.kept hF2 nB); (replace kB := hB.cell); (replace hL := hL.kept hF2 n_hL); (replace hFF := hFF.trans_new hF2 hSS); (have kBA := (hB.alloc (.cells #[.int .i64 line2, .int .i64 j2, .int .i64 c2, .int .i64 m2, .int .u64 a2, .int .u64 p2, .bool found2, .int .i64 tail2, .int .i64 cyc2] 81)).cell); (have hX1 := hX.alloc (.cells #[.int .i64 line2, .int .i64 j2, .int .i64 c2, .int .i64 m2, .int .u64 a2, .int .u64 p2, .bool found2, .int .i64 tail2, .int .i64 cyc2] 81)); (have kX1 := hX1.cell); (have fX1 := hX1.free); (have lX8 := hX.lt); (have dx1 : ¬ X = w8.heap.size := by omega); (have dx2 : ¬ w8.heap.size = X := by omega)))
        replace hX := (hX.set9 (.int .i64 line2) (.int .i64 j2) (.int .i64 c2) (.int .i64 m2) (.int .u64 a2) (.int .u64 p2) (.bool found2) (.int .i64 tail2) (.int .i64 cyc2)).alloc (.cells #[.int .i64 line2, .int .i64 j2, .int .i64 c2, .int .i64 m2, .int .u64 a2, .int .u64 p2, .bool found2, .int .i64 tail2, .int .i64 cyc2] 81)
        go_roundw
        case rel =>
          refine ⟨n + 1, np, s2, ⟨line2, j2, c2, m2, a2, p2, found2, tail2, cyc2⟩, by go_num, by go_num, hA2.out, ?_, hX, ?_, ?_, ?_⟩
          · refine HAt.alloc ?_ _
            repeat (first | with_reducible exact HH | with_reducible refine HAt.other ?_ n1 n2 n3 _)
          · refine Blk.alloc ?_ _
            repeat (first | with_reducible exact hB | with_reducible refine Blk.other ?_ dB _)
          · refine RdS.alloc ?_ _
            repeat (first | with_reducible exact hL | with_reducible refine RdS.other ?_ d_hL _)
          · refine Fr.alloc ?_ _
            repeat (first | with_reducible exact hFF | with_reducible refine Fr.setNew ?_ t0 _)
        case measure => simp [intOf]; omega
    case pos =>
      obtain ⟨e1, e2, e3, e4⟩ := hA.ends hln
      have hcc := hid hA.cfg
      clear hA hln HSt HWf HBd hKw hK
      obtain ⟨now, hnow⟩ : ∃ z, z = s.ws := ⟨_, rfl⟩
      rw [← hnow] at e2 e3 e4
      have hls : Hid (now.length = nn) := hid (by rw [e2.len]; exact hnn.out.symm)
      have HAll := hid (fun (W : World) (H : HAt W h ab db s) => HAt.allN (n := nn) H hnow.symm hls.out)
      have HGr := hid (fun W v (h : RdS W v nn (u64s now)) => HGn.out now e2.len e4 W v (by rw [hls.out]; exact h))
      have HCo := hid (fun (k : Nat) (h2 : (k : Int) ≠ 2) => mk_col HcA5.out e2 e4 k h2)
      clear HGn hnow e2 e4
      replace e3 := hid e3
      subst e1
      simp only at hX
      have kX := hX.cell
      have kH := HH.cellsC hcc.out
      go_wp2_with (first | (go_at_call 50; refine (HAll.out _ HH).mono ?_; rintro e w9 ⟨⟨g, capn, ext, rfl, hD, q1⟩, hF2⟩; (replace hB := hB.kept hF2 List.not_mem_nil); (replace kB := hB.cell); (replace hX := hX.kept hF2 List.not_mem_nil); (replace kX := hX.cell); (replace hL := hL.kept0 hF2); (replace hFF := hFF.trans hF2); (have hN := RdS.ofN hD capn hls.out); (have d22 := hN.at 2 (by rw [hls.out]; omega))) | (go_at_call 56; refine (HGr.out _ _ hN).mono ?_; rintro e w10 ⟨⟨ga, gc, rfl⟩, hF2⟩; (replace hB := hB.kept hF2 List.not_mem_nil); (replace kB := hB.cell); (replace hL := hL.kept0 hF2); (replace hN := hN.kept0 hF2); (replace hFF := hFF.trans hF2)))
      clear HH hX kX q1 hcc hD HGr d22
      go_loopw [15] (fun i wr => ∃ (k : Nat), k ≤ nn ∧ i = .int .i64 k ∧ RdS wr (.slice (some ⟨g, 0, none⟩) nn capn) nn (u64s now) ∧ RdS wr (.slice (some ⟨lb, lo, none⟩) nn uc) nn (u64s l) ∧ Blk wr w.heap.size 45 [.int .i64 cc, .int .i64 cm, .int .i64 cr, .int .i64 cg] ∧ Fr [] w wr) (fun i _ => nn - (intOf i).toNat)
      case atStart => exact ⟨0, by omega, rfl, hN, hL, hB, hFF⟩
      case round =>
        clear hN hL hB hFF kB
        obtain ⟨k, hk, rfl, hN, hL, hB, hFF⟩ := hrel
        have kB := hB.cell
        by_cases hlt : k < nn
        · have d1 := hL.at k (by rw [← hnn.out]; exact hlt)
          have d2 := hN.at k (by rw [hls.out]; exact hlt)
          simp only [Nat.zero_add] at d2
          by_cases hk2 : k = 2
          · have r0 : decide (ca ≤ (k : Int)) = false := by simp; omega
            have hkb : (((k : Int) != 2) = false) := by simp [hk2]
            obtain ⟨y, hy⟩ : ∃ y, y = wAt l k := ⟨_, rfl⟩
            obtain ⟨z, hz⟩ : ∃ z, z = wAt now k := ⟨_, rfl⟩
            rw [← hy] at d1
            rw [← hz] at d2
            clear hy hz hk2
            go_wp2
            go_quiet (fail)
            go_wp2_with fail
            go_roundw
            case rel => exact ⟨k + 1, by omega, by go_num, hN.kept0 ((Fr.refl _ _).drewN _), hL.kept0 ((Fr.refl _ _).drewN _), hB.drewN _, hFF.drewN _⟩
            case measure => simp [intOf]; omega
          · have hs := HCo.out k (by omega)
            obtain ⟨dd, hdd⟩ : ∃ d : Int, (k : Int) - ca = d := ⟨_, rfl⟩
            have r0 : IntKind.i64.wrap ((k : Int) - ca) = dd := by rw [w64 _ (by omega)]; exact hdd
            have hkb : (((k : Int) != 2) = true) := bne_iff_ne.2 (by omega)
            clear hk2
            rcases hs with e | ⟨e1, e2, ⟨e3, e4, e5, e6⟩, na0, na1⟩
            · rw [e] at d2
              obtain ⟨y, hy⟩ : ∃ y, y = wAt l k := ⟨_, rfl⟩
              rw [← hy] at d1 d2
              clear hy e
              have hne : (y != y) = false := by simp
              by_cases hca : ca ≤ (k : Int)
              · by_cases h3 : dd % 3 = 2
                · have r1 : Int.tmod dd 3 = 2 := by rw [Int.tmod_eq_emod_of_nonneg (by omega)]; exact h3
                  have r2 : decide (ca ≤ (k : Int)) = true := by simpa using hca
                  clear hdd h3 hca
                  by_cases y2 : y = 2
                  · subst y2
                    go_wp2
                    go_quiet (fail)
                    go_wp2_with fail
                    go_roundw
                    case rel => exact ⟨k + 1, by omega, by go_num, hN.kept0 ((Fr.refl _ _).drewN _), hL.kept0 ((Fr.refl _ _).drewN _), hB.drewN _, hFF.drewN _⟩
                    case measure => simp [intOf]; omega
                  · have y3 : (y != 2) = true := by simpa using y2
                    clear y2
                    go_wp2
                    go_quiet (fail)
                    go_wp2_with fail
                    go_roundw
                    case rel => exact ⟨k + 1, by omega, by go_num, hN.kept0 ((Fr.refl _ _).drewN _), hL.kept0 ((Fr.refl _ _).drewN _), hB.drewN _, hFF.drewN _⟩
                    case measure => simp [intOf]; omega
                · have r1 : (Int.tmod dd 3 == 2) = false := beq_eq_false_iff_ne.2 (by rw [Int.tmod_eq_emod_of_nonneg (by omega)]; exact h3)
                  have r2 : decide (ca ≤ (k : Int)) = true := by simpa using hca
                  clear hdd h3 hca
                  go_wp2
                  go_quiet (fail)
                  go_wp2_with fail
                  go_roundw
                  case rel => exact ⟨k + 1, by omega, by go_num, hN.kept0 ((Fr.refl _ _).drewN _), hL.kept0 ((Fr.refl _ _).drewN _), hB.drewN _, hFF.drewN _⟩
                  case measure => simp [intOf]; omega
              · have r2 : decide (ca ≤ (k : Int)) = false := by simpa using hca
                clear hca
                go_wp2
                go_quiet (fail)
                go_wp2_with fail
                go_roundw
                case rel => exact ⟨k + 1, by omega, by go_num, hN.kept0 ((Fr.refl _ _).drewN _), hL.kept0 ((Fr.refl _ _).drewN _), hB.drewN _, hFF.drewN _⟩
                case measure => simp [intOf]; omega
            · rw [← hca.out] at e3 e4
              have r1 : Int.tmod dd 3 = 2 := by rw [Int.tmod_eq_emod_of_nonneg (by omega), ← hdd]; exact e4
              have r2 : decide (ca ≤ (k : Int)) = true := by simpa using e3
              have hk5 : 2 ≤ (k : Int) := by omega
              have w2' : IntKind.i64.wrap ((k : Int) - 2) = ((k - 2 : Nat) : Int) := by rw [w64 _ (by omega)]; omega
              have w1' : IntKind.i64.wrap ((k : Int) - 1) = ((k - 1 : Nat) : Int) := by rw [w64 _ (by omega)]; omega
              have da0 := hN.at (k - 2) (by rw [hls.out]; omega)
              have da1 := hN.at (k - 1) (by rw [hls.out]; omega)
              simp only [Nat.zero_add] at da0 da1
              rw [show (((k - 2 : Nat)) : Int) = (k : Int) - 2 by omega, e5] at da0
              rw [show (((k - 1 : Nat)) : Int) = (k : Int) - 1 by omega, e6] at da1
              have db0 : True := trivial
              have db1 : True := trivial
              have HI0 := HIs.out ((k : Int) - 2)
              obtain ⟨u0, hu0⟩ : ∃ u, u = wAt l ((k : Int) - 2) := ⟨_, rfl⟩
              rw [← hu0] at HI0 na0 da0
              unfold NotW at na0
              obtain ⟨q0, hq0⟩ : ∃ q, q = cellN u0 := ⟨_, rfl⟩
              rw [← hq0] at HI0 na0
              have HA0 := HAtc.out q0
              have al0 := cellP_lt hR 2 q0 (by omega)
              rw [← hlen.out] at al0
              obtain ⟨a0, ha0⟩ : ∃ a, a = Cfg.cellP ⟨cc, cm, cr, cg⟩ 2 q0 := ⟨_, rfl⟩
              rw [← ha0] at HA0 na0 al0
              clear hu0 hq0 ha0
              replace HI0 := hid HI0
              replace HA0 := hid HA0
              have HI1 := HIs.out ((k : Int) - 1)
              obtain ⟨u1, hu1⟩ : ∃ u, u = wAt l ((k : Int) - 1) := ⟨_, rfl⟩
              rw [← hu1] at HI1 na1 da1
              unfold NotW at na1
              obtain ⟨q1, hq1⟩ : ∃ q, q = cellN u1 := ⟨_, rfl⟩
              rw [← hq1] at HI1 na1
              have HA1 := HAtc.out q1
              have al1 := cellP_lt hR 2 q1 (by omega)
              rw [← hlen.out] at al1
              obtain ⟨a1, ha1⟩ : ∃ a, a = Cfg.cellP ⟨cc, cm, cr, cg⟩ 2 q1 := ⟨_, rfl⟩
              rw [← ha1] at HA1 na1 al1
              clear hu1 hq1 ha1
              replace HI1 := hid HI1
              replace HA1 := hid HA1
              rw [e2] at d2
              obtain ⟨y, hy⟩ : ∃ y, y = wAt l k := ⟨_, rfl⟩
              rw [← hy] at d1 e1
              have y1 : (2 != y) = true := by rcases e1 with q | q <;> rw [q] <;> rfl
              have y2 : decide (1 < y) = false := by rcases e1 with q | q <;> rw [q] <;> rfl
              have y3 : (y == 2) = false := by rcases e1 with q | q <;> rw [q] <;> rfl
              clear hy e1 e2 e3 e4 e5 e6 hdd db0 db1
              have lk2 : k - 2 < nn := by omega
              have lk1 : k - 1 < nn := by omega
              generalize k - 2 = k2 at w2' da0 lk2
              generalize k - 1 = k1 at w1' da1 lk1
              have hwK := hid hlt
              go_wp2
              go_quiet (fail)
              go_wp2_with fail
              go_region
              go_wp2_with fail
              obtain ⟨W1, hW1⟩ : ∃ W1, W1 = wr.drewN (nq + 1) := ⟨_, rfl⟩
              have f1 : Fr [] wr W1 := by rw [hW1]; exact (Fr.refl [] wr).drewN _
              rw [← hW1]
              have hsz1 : W1.heap.size = wr.heap.size := by rw [hW1]; rfl
              clear hW1
              have hS := Blk.new W1 [.int .u64 u0, .int .u64 u1] 36
              replace hN := (hN.kept0 f1).alloc (.cells #[.int .u64 u0, .int .u64 u1] 36)
              replace hL := (hL.kept0 f1).alloc (.cells #[.int .u64 u0, .int .u64 u1] 36)
              replace hB := (hB.kept f1 List.not_mem_nil).alloc (.cells #[.int .u64 u0, .int .u64 u1] 36)
              replace hFF := (hFF.trans f1).alloc (.cells #[.int .u64 u0, .int .u64 u1] 36)
              rw [hsz1] at hS
              obtain ⟨S, hSe⟩ : ∃ S, S = wr.heap.size := ⟨_, rfl⟩
              rw [← hSe] at hS
              try rw [hsz1]
              try rw [← hSe]
              clear hSe hsz1 f1 kB d1 d2 da0 da1 y1 y2 y3 w1' w2' r0 r1 r2 hkb lk1 lk2
              go_loopw [189] (fun i wr2 => (i = .int .i64 0 ∨ i = .int .i64 1 ∨ i = .int .i64 2) ∧ RdS wr2 (.slice (some ⟨g, 0, none⟩) nn capn) nn (u64s now) ∧ Blk wr2 S 36 [.int .u64 u0, .int .u64 u1] ∧ Blk wr2 w.heap.size 45 [.int .i64 cc, .int .i64 cm, .int .i64 cr, .int .i64 cg] ∧ RdS wr2 (.slice (some ⟨lb, lo, none⟩) nn uc) nn (u64s l) ∧ Fr [] w wr2) (fun i _ => 2 - (intOf i).toNat)
              case atStart => exact ⟨.inl rfl, hN, hS, hB, hL, hFF⟩
              case round =>
                clear hN hS hB hL hFF
                obtain ⟨hj, hN, hS, hB, hL, hFF⟩ := hrel
                have kB := hB.cell
                have kS := hS.cell
                rcases hj with rfl | rfl | rfl
                · clear na1 al1 HA1 HI1
                  by_cases hz0 : 0 ≤ a0
                  · obtain ⟨b0, rfl⟩ : ∃ n : Nat, a0 = n := ⟨a0.toNat, by omega⟩
                    have c1 := na0 hz0
                    have RN0 := fun W (h : RdS W (.slice (some ⟨g, 0, none⟩) nn capn) nn (u64s now)) => h.at b0 (by rw [hls.out]; omega)
                    simp only [Nat.zero_add] at RN0
                    obtain ⟨y0, hy0⟩ : ∃ y, y = wAt now b0 := ⟨_, rfl⟩
                    rw [← hy0] at c1 RN0
                    have c2 : (y0 == 0) = false := beq_eq_false_iff_ne.2 c1
                    clear hy0 c1 hz0 na0
                    replace RN0 := hid RN0
                    go_wp2_with (first | (go_at_call 57; refine (HI0.out _).mono ?_; rintro e w11 ⟨rfl, rfl⟩) | (go_at_call 58; refine (HA0.out _).mono ?_; rintro e w12 ⟨rfl, hF2⟩; (replace hB := hB.kept hF2 List.not_mem_nil); (replace kB := hB.cell); (replace hS := hS.kept hF2 List.not_mem_nil); (replace kS := hS.cell); (replace hL := hL.kept0 hF2); (replace hN := hN.kept0 hF2); (replace hFF := hFF.trans hF2); (have d2 := RN0.out _ hN)))
                    go_roundw
                    case rel => exact ⟨.inr (.inl rfl), hN, hS, hB, hL, hFF⟩
                    case measure => simp [intOf]
                  · replace hz0 : a0 < 0 := by omega
                    clear na0 al0
                    go_wp2_with (first | (go_at_call 57; refine (HI0.out _).mono ?_; rintro e w11 ⟨rfl, rfl⟩) | (go_at_call 58; refine (HA0.out _).mono ?_; rintro e w12 ⟨rfl, hF2⟩; (replace hB := hB.kept hF2 List.not_mem_nil); (replace kB := hB.cell); (replace hS := hS.kept hF2 List.not_mem_nil); (replace kS := hS.cell); (replace hL := hL.kept0 hF2); (replace hN := hN.kept0 hF2); (replace hFF := hFF.trans hF2)))
                    go_roundw
                    case rel => exact ⟨.inr (.inl rfl), hN, hS, hB, hL, hFF⟩
                    case measure => simp [intOf]
                · clear na0 al0 HA0 HI0
                  by_cases hz1 : 0 ≤ a1
                  · obtain ⟨b1, rfl⟩ : ∃ n : Nat, a1 = n := ⟨a1.toNat, by omega⟩
                    have c1 := na1 hz1
                    have RN1 := fun W (h : RdS W (.slice (some ⟨g, 0, none⟩) nn capn) nn (u64s now)) => h.at b1 (by rw [hls.out]; omega)
                    simp only [Nat.zero_add] at RN1
                    obtain ⟨y1, hy1⟩ : ∃ y, y = wAt now b1 := ⟨_, rfl⟩
                    rw [← hy1] at c1 RN1
                    have c2 : (y1 == 0) = false := beq_eq_false_iff_ne.2 c1
                    clear hy1 c1 hz1 na1
                    replace RN1 := hid RN1
                    go_wp2_with (first | (go_at_call 57; refine (HI1.out _).mono ?_; rintro e w11 ⟨rfl, rfl⟩) | (go_at_call 58; refine (HA1.out _).mono ?_; rintro e w12 ⟨rfl, hF2⟩; (replace hB := hB.kept hF2 List.not_mem_nil); (replace kB := hB.cell); (replace hS := hS.kept hF2 List.not_mem_nil); (replace kS := hS.cell); (replace hL := hL.kept0 hF2); (replace hN := hN.kept0 hF2); (replace hFF := hFF.trans hF2); (have d2 := RN1.out _ hN)))
                    go_roundw
                    case rel => exact ⟨.inr (.inr rfl), hN, hS, hB, hL, hFF⟩
                    case measure => simp [intOf]
                  · replace hz1 : a1 < 0 := by omega
                    clear na1 al1
                    go_wp2_with (first | (go_at_call 57; refine (HI1.out _).mono ?_; rintro e w11 ⟨rfl, rfl⟩) | (go_at_call 58; refine (HA1.out _).mono ?_; rintro e w12 ⟨rfl, hF2⟩; (replace hB := hB.kept hF2 List.not_mem_nil); (replace kB := hB.cell); (replace hS := hS.kept hF2 List.not_mem_nil); (replace kS := hS.cell); (replace hL := hL.kept0 hF2); (replace hN := hN.kept0 hF2); (replace hFF := hFF.trans hF2)))
                    go_roundw
                    case rel => exact ⟨.inr (.inr rfl), hN, hS, hB, hL, hFF⟩
                    case measure => simp [intOf]
                · go_wp2_with fail
                  go_roundw
                  case rel => exact ⟨k + 1, by omega, by go_num, hN, hL, hB, hFF⟩
                  case measure => simp [intOf]; omega
        · obtain rfl : k = nn := by omega
          go_wp2_with fail
          go_ret
          exact ⟨rfl, hFF⟩

end Go.Proofs.Ytolkgdchinaonaa
