/- mudlarklaw15.RootsShades: the walk. -/
import Derived.Test.YteggckdgjecfmaaRootsP
import Derived.Test.YteggckdgjecfmaaRdAt
import Derived.Test.YteggckdgjecfmaaRootsAny
import Derived.Test.YteggckdgjecfmaaRootsBeg
import Derived.Test.YteggckdgjecfmaaNear
import Derived.Test.YteggckdgjecfmaaAtAll
import Derived.Test.YteggckdgjecfmaaAwake15
import Derived.Test.YteggckdgjecfmaaCBox
import Derived.Test.YteggckdgjecfmaaHandMore
namespace Go.Proofs.Yteggckdgjecfmaa
open Go.RowKit
set_option linter.unusedVariables false
set_option linter.unusedSimpArgs false

set_option maxRecDepth 100000 in
set_option maxHeartbeats 8000000 in
theorem rootsShades_any (c : Cfg) (v : Value) (l : List Int) (w : World) (hv : RdS w v l.length (u64s l)) (hl : l.length ≤ 35184372088832) (hwf : ∀ y, y ∈ l → 0 ≤ y ∧ y < 18446744073709551616) :
    Calls Try.prog 16 #[c.val, v] w fun e w' => e = .returned (.bool true) ∧ Fr [] w w' := by
  obtain ⟨ua, uc, rfl, hu⟩ := hv.elim
  clear hu
  by_cases hbo : bothOk c l.length
  case neg =>
    have HBo := fun W (f : Fr [] w W) => hid (both_no (w := W) c _ l (hv.kept0 f) hbo hl)
    clear hv hbo hl hwf
    obtain ⟨cc, cm, cr, cg⟩ := c
    go_enter Try.func16, Try.ntmps16
    have hB := Blk.new w [.int .i64 cc, .int .i64 cm, .int .i64 cr, .int .i64 cg] 45
    have kB := hB.cell
    have hFF := (Fr.refl [] w).alloc (.cells #[.int .i64 cc, .int .i64 cm, .int .i64 cr, .int .i64 cg] 45)
    go_wp2_with (first | (go_at_call 71; refine (awake15_any _).mono ?_; rintro e w2 ⟨rfl, hF2⟩; (replace hB := hB.kept hF2 List.not_mem_nil); (replace kB := hB.cell); (replace hFF := hFF.trans hF2)) | (go_at_call 62; refine (HBo _ hFF).out.mono ?_; rintro e w5 ⟨rfl, hF2⟩; (replace hB := hB.kept hF2 List.not_mem_nil); (replace kB := hB.cell); (replace hFF := hFF.trans hF2)))
    go_ret
    exact ⟨rfl, hFF⟩
  obtain ⟨hgr, hR, hlen⟩ := hbo
  have hpos := hR.words_pos
  have HBo := fun W (f : Fr [] w W) => hid (both_ok (w := W) hgr hR _ l (hv.kept0 f) hlen hwf)
  obtain ⟨lb, lo, rfl, lbl⟩ := hv.base (by omega)
  have hL := hv
  have n_hL : ∀ h db, w.heap.size ≤ h → w.heap.size ≤ db → ∀ b, Value.ownBlock (.slice (some ⟨lb, lo, none⟩) l.length uc) = some b → b ∉ [h, db] := by
    intro h db e1 e2 b hb; cases hb; simp; omega
  have HRo := hid (fun W => rRoots_any hR W)
  have HRt := hid (fun (j : Nat) (hj : (j : Int) < 1000000) W => rRoot_any hR j (by omega) W)
  have HIs := hid (fun (k : Int) W => rIsCell_any (wAt l k) (wAt_bd hwf k).1 (wAt_bd hwf k).2 W)
  have HAtc := hid (fun (i : Int) W => rAtAll_any hR 6 2 i rfl (by omega) W)
  have HSt := hid (fun (n : Nat) (s : HS) (x : ColV) (h : RsAt c l n s x) => h.wf hR (wAt_bd hwf))
  have HSs := hid (fun (n : Nat) (s : HS) (x : ColV) (h : RsAt c l n s x) (hx : x.line = 1 ∨ x.line = 2) => h.step hR hx)
  have HRin := hid (fun (j : Nat) (h1 : (j : Int) < c.roots) => rootP_in hR j (by omega) h1)
  have HDn := hid (fun (j : Nat) (hj : j < c.roots.toNat) => shRoots_done hR l hlen j _ hj)
  have HSh := hid (shRoots_at c l c.roots.toNat)
  have HSl := hid (shRoots_len c l c.roots.toNat)
  have HcA := hid (cA_words c)
  obtain ⟨s0, hs0⟩ : ∃ s : HS, s = ⟨c, l, Acc.z⟩ := ⟨_, rfl⟩
  have hs00 : RsAt c l 0 s0 ⟨1, 0, 0, 0, 0, 0, false, 0, 0⟩ := RsAt.start hR l (by rw [hs0]) (by rw [hs0])
  have hcc := hid (show s0.c = c by rw [hs0])
  replace hs0 := hid hs0
  obtain ⟨many, hmany⟩ : ∃ z, z = c.roots := ⟨_, rfl⟩
  have hmb : 0 ≤ many ∧ many ≤ 5000 := by
    obtain ⟨a1, a2, a3, a4, a5, a6, a7, a8⟩ := hR
    have : c.muts * c.regs ≤ 63 * 64 := Int.mul_le_mul (by omega) (by omega) (by omega) (by omega)
    have : 0 ≤ c.muts * c.regs := Int.mul_nonneg (by omega) (by omega)
    rw [hmany]; unfold Cfg.roots; omega
  obtain ⟨mn, rfl⟩ : ∃ z : Nat, many = z := ⟨many.toNat, by omega⟩
  rw [← hmany] at HRo HRin
  replace hmany := hid hmany
  have hc1 := hR.c0
  have hc2 := hR.c1
  have hcA := cA_bd hR
  have hcw := cA_words c
  obtain ⟨nn, hnn⟩ : ∃ z, z = l.length := ⟨_, rfl⟩
  rw [← hnn] at hL n_hL hlen HBo ⊢
  have hnn2 : nn ≤ 20000 := by omega
  have hnw : (nn : Int) - 3 * c.cells = c.cA := by omega
  replace hnn := hid hnn
  obtain ⟨ca, hca⟩ : ∃ z, z = c.cA := ⟨_, rfl⟩
  rw [← hca] at hcA hnw
  replace hca := hid hca
  clear hcw
  replace hlen := hid hlen
  clear hv hl hpos hgr
  obtain ⟨cc, cm, cr, cg⟩ := c
  simp only at hc1 hc2 hnw
  go_enter Try.func16, Try.ntmps16
  have hB := Blk.new w [.int .i64 cc, .int .i64 cm, .int .i64 cr, .int .i64 cg] 45
  have kB := hB.cell
  have hFF := (Fr.refl [] w).alloc (.cells #[.int .i64 cc, .int .i64 cm, .int .i64 cr, .int .i64 cg] 45)
  go_wp2_with (first | (go_at_call 71; refine (awake15_any _).mono ?_; rintro e w2 ⟨rfl, hF2⟩; (replace hB := hB.kept hF2 List.not_mem_nil); (replace kB := hB.cell); (replace hFF := hFF.trans hF2)) | (go_at_call 62; refine (HBo _ hFF).out.mono ?_; rintro e w5 ⟨⟨h, ab, db, r, rd, cap, ext, rfl, HH, HR, q1, q2, q3, q4, q5, d1, d2, d3, d4, d5, d6⟩, hF2⟩; (replace HH := HH.to hs0.out.symm); clear HR d1 d2 d3 d4 d5 d6 q4 q5; (replace hL := hL.kept0 (hFF.trans hF2)); (have lBB := hB.lt); (replace hB := hB.kept hF2 List.not_mem_nil); (replace kB := hB.cell); (have nB : w.heap.size ∉ [h, db] := by simp; omega); (have hSS := fun i (m : i ∈ [h, db]) (l : i < w.heap.size) => (show i ∈ ([] : List Nat) by simp at m; omega)); (have sF := hFF.size); (have zz1 := Nat.le_trans sF q1); (have zz2 := Nat.le_trans sF q2); (have zz3 := Nat.le_trans sF q3); (replace hFF := hFF.trans hF2); (have kH := HH.cellsC hcc.out)) | (go_at_call 72; refine (HRo.out _).mono ?_; rintro e w6 ⟨rfl, hF2⟩; (replace hB := hB.kept hF2 List.not_mem_nil); (replace kB := hB.cell); (replace HH := HH.kept0 hF2); (replace kH := HH.cellsC hcc.out); (replace hL := hL.kept0 hF2); (replace hFF := hFF.trans hF2)) | (go_at_call 73; refine (rbegin15_any 0 0 0 0 0 0 0 0 false _).mono ?_; rintro e w7 ⟨rfl, hF2⟩; (replace hB := hB.kept hF2 List.not_mem_nil); (replace kB := hB.cell); (replace HH := HH.kept0 hF2); (replace kH := HH.cellsC hcc.out); (replace hL := hL.kept0 hF2); (replace hFF := hFF.trans hF2)))
  have l1 := HH.blk.lt
  have l2 := HH.ar.hdr.lt
  have l3 := HH.ar.dat.lt
  have sF := hFF.size
  obtain ⟨X, hXe⟩ : ∃ X, X = w7.heap.size := ⟨_, rfl⟩
  have hX := Blk.new w7 [.int .i64 1, .int .i64 0, .int .i64 0, .int .i64 0, .int .u64 0, .int .u64 0, .bool false, .int .i64 0, .int .i64 0] 86
  replace hFF := hFF.alloc (.cells #[.int .i64 1, .int .i64 0, .int .i64 0, .int .i64 0, .int .u64 0, .int .u64 0, .bool false, .int .i64 0, .int .i64 0] 86)
  replace HH := HH.alloc (.cells #[.int .i64 1, .int .i64 0, .int .i64 0, .int .i64 0, .int .u64 0, .int .u64 0, .bool false, .int .i64 0, .int .i64 0] 86)
  replace hB := hB.alloc (.cells #[.int .i64 1, .int .i64 0, .int .i64 0, .int .i64 0, .int .u64 0, .int .u64 0, .bool false, .int .i64 0, .int .i64 0] 86)
  replace hL := hL.alloc (.cells #[.int .i64 1, .int .i64 0, .int .i64 0, .int .i64 0, .int .u64 0, .int .u64 0, .bool false, .int .i64 0, .int .i64 0] 86)
  rw [← hXe] at hX ⊢
  have n1 : h ≠ X := by omega
  have n2 : ab ≠ X := by omega
  have n3 : db ≠ X := by omega
  have nX : X ∉ [h, db] := by simp; omega
  have dB : w.heap.size ≠ X := by omega
  have t0 : w.heap.size ≤ X := by omega
  replace n_hL := n_hL h db zz1 zz3
  have d_hL : Value.ownBlock (.slice (some ⟨lb, lo, none⟩) nn uc) ≠ some X := by intro e; have e2 : lb = X := Option.some.inj e; omega
  clear hXe l1 l2 l3 sF zz1 zz2 zz3 kB kH HBo
  go_loopw [10] (fun i wr => ∃ (n : Nat) (s : HS) (x : ColV), i = .int .i64 n ∧ RsAt ⟨cc, cm, cr, cg⟩ l n s x ∧ HAt wr h ab db s ∧ Blk wr X 86 [.int .i64 x.line, .int .i64 x.j, .int .i64 x.c, .int .i64 x.m, .int .u64 x.a, .int .u64 x.p, .bool x.found, .int .i64 x.tail, .int .i64 x.cyc] ∧ Blk wr w.heap.size 45 [.int .i64 cc, .int .i64 cm, .int .i64 cr, .int .i64 cg] ∧ RdS wr (.slice (some ⟨lb, lo, none⟩) nn uc) nn (u64s l) ∧ Fr [] w wr) (fun i _ => 2 * mn + 1 - (intOf i).toNat)
  case atStart => exact ⟨0, s0, ⟨1, 0, 0, 0, 0, 0, false, 0, 0⟩, rfl, hs00, HH, hX, hB, hL, hFF⟩
  case round =>
    clear HH hX hB hL hFF hs00
    obtain ⟨n, s, x, rfl, hA, HH, hX, hB, hL, hFF⟩ := hrel
    by_cases hln : x.line = 1 ∨ x.line = 2
    · have hlt := (hA.n_lt hln).1
      rw [← hmany.out] at hlt
      obtain ⟨wf, nr⟩ := HSt.out n s x hA
      obtain ⟨his, hA2⟩ := HSs.out n s x hA hln
      have HX := fun (W : World) (H : HAt W h ab db s) => rs_any H x wf nr
      rw [his] at HX
      have hcc2 := hA.cfg
      obtain ⟨s2, hs2⟩ : ∃ z, z = (rsM s x).s := ⟨_, rfl⟩
      obtain ⟨y, hy⟩ : ∃ z, z = (rsM s x).x := ⟨_, rfl⟩
      rw [← hs2, ← hy] at HX hA2
      clear hs2 hy his wf nr hA hcc
      have hcc := hid hcc2
      clear hcc2
      replace hA2 := hid hA2
      have b0 : (2 * (mn : Int)) ≤ 10000 := by omega
      obtain ⟨line, j, c, m, a, p, found, tail, cyc⟩ := x
      obtain ⟨line2, j2, c2, m2, a2, p2, found2, tail2, cyc2⟩ := y
      simp only [ColV.val] at HX
      simp only at hln hX
      replace HX := hid HX
      have kX := hX.cell
      have fX := hX.free
      have d0 := hFF.size
      have lX := hX.lt
      rcases hln with rfl | rfl
      · go_wp2_with (first | (go_at_call 74; refine (HX.out _ HH).mono ?_; rintro e w8 ⟨rfl, HH, hF2⟩; (replace hX := hX.kept hF2 nX); (replace kX := hX.cell); (replace fX := hX.free); (replace hB := hB.kept hF2 nB); (replace kB := hB.cell); (replace hL := hL.kept hF2 n_hL); (replace hFF := hFF.trans_new hF2 hSS); (have hX1 := hX.alloc (.cells #[.int .i64 line2, .int .i64 j2, .int .i64 c2, .int .i64 m2, .int .u64 a2, .int .u64 p2, .bool found2, .int .i64 tail2, .int .i64 cyc2] 86)); (have kX1 := hX1.cell); (have fX1 := hX1.free); (have lX8 := hX.lt); (have dx1 : ¬ X = w8.heap.size := by omega); (have dx2 : ¬ w8.heap.size = X := by omega)))
        replace hX := (hX.set9 (.int .i64 line2) (.int .i64 j2) (.int .i64 c2) (.int .i64 m2) (.int .u64 a2) (.int .u64 p2) (.bool found2) (.int .i64 tail2) (.int .i64 cyc2)).alloc (.cells #[.int .i64 line2, .int .i64 j2, .int .i64 c2, .int .i64 m2, .int .u64 a2, .int .u64 p2, .bool found2, .int .i64 tail2, .int .i64 cyc2] 86)
        go_roundw
        case rel =>
          refine ⟨n + 1, s2, ⟨line2, j2, c2, m2, a2, p2, found2, tail2, cyc2⟩, by go_num, hA2.out, ?_, hX, ?_, ?_, ?_⟩
          · refine HAt.alloc ?_ _
            repeat (first | with_reducible exact HH | with_reducible refine HAt.other ?_ n1 n2 n3 _)
          · refine Blk.alloc ?_ _
            repeat (first | with_reducible exact hB | with_reducible refine Blk.other ?_ dB _)
          · refine RdS.alloc ?_ _
            repeat (first | with_reducible exact hL | with_reducible refine RdS.other ?_ d_hL _)
          · refine Fr.alloc ?_ _
            repeat (first | with_reducible exact hFF | with_reducible refine Fr.setNew ?_ t0 _)
        case measure => simp [intOf]; omega
      · go_wp2_with (first | (go_at_call 74; refine (HX.out _ HH).mono ?_; rintro e w8 ⟨rfl, HH, hF2⟩; (replace hX := hX.kept hF2 nX); (replace kX := hX.cell); (replace fX := hX.free); (replace hB := hB.kept hF2 nB); (replace kB := hB.cell); (replace hL := hL.kept hF2 n_hL); (replace hFF := hFF.trans_new hF2 hSS); (have hX1 := hX.alloc (.cells #[.int .i64 line2, .int .i64 j2, .int .i64 c2, .int .i64 m2, .int .u64 a2, .int .u64 p2, .bool found2, .int .i64 tail2, .int .i64 cyc2] 86)); (have kX1 := hX1.cell); (have fX1 := hX1.free); (have lX8 := hX.lt); (have dx1 : ¬ X = w8.heap.size := by omega); (have dx2 : ¬ w8.heap.size = X := by omega)))
        replace hX := (hX.set9 (.int .i64 line2) (.int .i64 j2) (.int .i64 c2) (.int .i64 m2) (.int .u64 a2) (.int .u64 p2) (.bool found2) (.int .i64 tail2) (.int .i64 cyc2)).alloc (.cells #[.int .i64 line2, .int .i64 j2, .int .i64 c2, .int .i64 m2, .int .u64 a2, .int .u64 p2, .bool found2, .int .i64 tail2, .int .i64 cyc2] 86)
        go_roundw
        case rel =>
          refine ⟨n + 1, s2, ⟨line2, j2, c2, m2, a2, p2, found2, tail2, cyc2⟩, by go_num, hA2.out, ?_, hX, ?_, ?_, ?_⟩
          · refine HAt.alloc ?_ _
            repeat (first | with_reducible exact HH | with_reducible refine HAt.other ?_ n1 n2 n3 _)
          · refine Blk.alloc ?_ _
            repeat (first | with_reducible exact hB | with_reducible refine Blk.other ?_ dB _)
          · refine RdS.alloc ?_ _
            repeat (first | with_reducible exact hL | with_reducible refine RdS.other ?_ d_hL _)
          · refine Fr.alloc ?_ _
            repeat (first | with_reducible exact hFF | with_reducible refine Fr.setNew ?_ t0 _)
        case measure => simp [intOf]; omega

    · obtain hl3 : x.line = 3 ∧ x.j = (⟨cc, cm, cr, cg⟩ : Cfg).roots ∧ s.ws = shRoots ⟨cc, cm, cr, cg⟩ l (⟨cc, cm, cr, cg⟩ : Cfg).roots.toNat := by
        rcases hA.line with h | h | h
        · exact absurd (.inl h) hln
        · exact absurd (.inr h) hln
        · exact ⟨h.1, h.2.1, h.2.2.1⟩
      obtain ⟨e1, e2, e3⟩ := hl3
      rw [← hmany.out] at e2 e3
      have hA' := hA.cfg
      clear hcc
      have hcc := hid hA'
      clear hln hA hA'
      have hSh := HSh.out
      have hSl := HSl.out
      have hDn := HDn.out
      rw [← hmany.out] at hSh hSl hDn
      rw [← hnn.out] at hSl
      have HAll := fun (W : World) (H : HAt W h ab db s) => HAt.allN H e3 hSl
      clear e3
      obtain ⟨now, hnow⟩ : ∃ z, z = shRoots ⟨cc, cm, cr, cg⟩ l ((mn : Int)).toNat := ⟨_, rfl⟩
      rw [← hnow] at HAll hSh hSl hDn
      replace HAll := hid HAll
      replace hSh := hid hSh
      replace hDn := hid hDn
      replace hSl := hid hSl
      clear hnow HSh HSl HDn HSt HSs HRo
      obtain ⟨line, j, c, m, a, p, found, tail, cyc⟩ := x
      simp only at e1 e2 hX
      subst e1
      subst e2
      have hmn : (mn : Int) ≤ 5000 := by omega
      have hmt : ((mn : Int)).toNat = mn := by omega
      have hDn2 := hDn.out
      rw [hmt] at hDn2
      replace hDn := hid hDn2
      clear hDn2
      have kX := hX.cell
      have kH := HH.cellsC hcc.out
      go_wp2_with (first | (go_at_call 56; refine (HAll.out _ HH).mono ?_; rintro e w9 ⟨⟨g, capn, ext, rfl, hD, q1⟩, hF2⟩; (replace hB := hB.kept hF2 List.not_mem_nil); (replace kB := hB.cell); (replace hX := hX.kept hF2 List.not_mem_nil); (replace kX := hX.cell); (replace hL := hL.kept0 hF2); (replace hFF := hFF.trans hF2); (have hN := RdS.ofN hD capn hSl.out)))
      clear HH hX kX q1 hcc hD
      go_loopw [14] (fun i wr => ∃ (j : Nat), j ≤ mn ∧ i = .int .i64 j ∧ RdS wr (.slice (some ⟨g, 0, none⟩) nn capn) nn (u64s now) ∧ Blk wr w.heap.size 45 [.int .i64 cc, .int .i64 cm, .int .i64 cr, .int .i64 cg] ∧ RdS wr (.slice (some ⟨lb, lo, none⟩) nn uc) nn (u64s l) ∧ Fr [] w wr) (fun i _ => mn - (intOf i).toNat)
      case atStart => exact ⟨0, by omega, rfl, hN, hB, hL, hFF⟩
      case round =>
        clear hN hB hL hFF kB
        obtain ⟨j, hj, rfl, hN, hB, hL, hFF⟩ := hrel
        have kB := hB.cell
        by_cases hlt : j < mn
        · obtain ⟨z0, z1⟩ := HRin.out j (by omega)
          have HR1 := fun W => HRt.out j (by omega) W
          have hDj := hDn.out j hlt
          obtain ⟨zz, hzz⟩ : ∃ z, z = Cfg.rootP ⟨cc, cm, cr, cg⟩ j := ⟨_, rfl⟩
          rw [← hzz] at z0 z1 HR1 hDj
          clear hzz
          obtain ⟨z, rfl⟩ : ∃ n : Nat, zz = n := ⟨zz.toNat, by omega⟩
          rw [← hca.out] at z1
          have zl : z < nn := by omega
          have HI1 := fun W => HIs.out z W
          have RL := fun W (h : RdS W (.slice (some ⟨lb, lo, none⟩) nn uc) nn (u64s l)) => h.at z (by rw [← hnn.out]; exact zl)
          obtain ⟨u, hu⟩ : ∃ u, u = wAt l z := ⟨_, rfl⟩
          rw [← hu] at HI1 hDj RL
          clear hu
          obtain ⟨q, hq⟩ : ∃ q, q = cellN u := ⟨_, rfl⟩
          rw [← hq] at HI1 hDj
          clear hq
          have HA1 := fun W => HAtc.out q W
          have al := cellP_lt hR 2 q (by omega)
          rw [← hlen.out] at al
          obtain ⟨a, ha⟩ : ∃ a, a = Cfg.cellP ⟨cc, cm, cr, cg⟩ 2 q := ⟨_, rfl⟩
          rw [← ha] at HA1 hDj al
          clear ha
          replace HR1 := hid HR1
          replace HI1 := hid HI1
          replace HA1 := hid HA1
          replace RL := hid RL
          by_cases ha : 0 ≤ a
          · obtain ⟨a2, rfl⟩ : ∃ n : Nat, a = n := ⟨a.toNat, by omega⟩
            have b1 := hDj ha
            have RN := fun W (h : RdS W (.slice (some ⟨g, 0, none⟩) nn capn) nn (u64s now)) => h.at a2 (by rw [hSl.out]; omega)
            simp only [Nat.zero_add] at RN
            obtain ⟨y, hy⟩ : ∃ y, y = wAt now a2 := ⟨_, rfl⟩
            rw [← hy] at b1 RN
            have b2 : (y == 0) = false := beq_eq_false_iff_ne.2 b1
            clear hy b1 ha hDj
            replace RN := hid RN
            go_wp2_with (first | (go_at_call 75; refine (HR1.out _).mono ?_; rintro e w10 ⟨rfl, hF2⟩; (replace hB := hB.kept hF2 List.not_mem_nil); (replace kB := hB.cell); (replace hL := hL.kept0 hF2); (replace hN := hN.kept0 hF2); (replace hFF := hFF.trans hF2); (have d1 := RL.out _ hL)) | (go_at_call 57; refine (HI1.out _).mono ?_; rintro e w11 ⟨rfl, rfl⟩) | (go_at_call 76; refine (HA1.out _).mono ?_; rintro e w12 ⟨rfl, hF2⟩; (replace hB := hB.kept hF2 List.not_mem_nil); (replace kB := hB.cell); (replace hL := hL.kept0 hF2); (replace hN := hN.kept0 hF2); (replace hFF := hFF.trans hF2); (have d2 := RN.out _ hN)))
            go_roundw
            case rel => exact ⟨j + 1, by omega, by go_num, hN, hB, hL, hFF⟩
            case measure => simp [intOf]; omega
          · replace ha : a < 0 := by omega
            clear hDj al
            go_wp2_with (first | (go_at_call 75; refine (HR1.out _).mono ?_; rintro e w10 ⟨rfl, hF2⟩; (replace hB := hB.kept hF2 List.not_mem_nil); (replace kB := hB.cell); (replace hL := hL.kept0 hF2); (replace hN := hN.kept0 hF2); (replace hFF := hFF.trans hF2); (have d1 := RL.out _ hL)) | (go_at_call 57; refine (HI1.out _).mono ?_; rintro e w11 ⟨rfl, rfl⟩) | (go_at_call 76; refine (HA1.out _).mono ?_; rintro e w12 ⟨rfl, hF2⟩; (replace hB := hB.kept hF2 List.not_mem_nil); (replace kB := hB.cell); (replace hL := hL.kept0 hF2); (replace hN := hN.kept0 hF2); (replace hFF := hFF.trans hF2)))
            go_roundw
            case rel => exact ⟨j + 1, by omega, by go_num, hN, hB, hL, hFF⟩
            case measure => simp [intOf]; omega
        · obtain rfl : j = mn := by omega
          clear hDn HRin HRt HAtc HIs
          go_wp2_with fail
          clear hB kB
          go_loopw [18] (fun i wr => ∃ (k : Nat), k ≤ nn ∧ i = .int .i64 k ∧ RdS wr (.slice (some ⟨g, 0, none⟩) nn capn) nn (u64s now) ∧ RdS wr (.slice (some ⟨lb, lo, none⟩) nn uc) nn (u64s l) ∧ Fr [] w wr) (fun i _ => nn - (intOf i).toNat)
          case atStart => exact ⟨0, by omega, rfl, hN, hL, hFF⟩
          case round =>
            clear hN hL hFF
            obtain ⟨k, hk, rfl, hN, hL, hFF⟩ := hrel
            by_cases hlt : k < nn
            · have hs := hSh.out k
              have d1 := hL.at k (by rw [← hnn.out]; exact hlt)
              have d2 := hN.at k (by rw [hSl.out]; exact hlt)
              simp only [Nat.zero_add] at d2
              obtain ⟨x, hx⟩ : ∃ x, x = wAt l k := ⟨_, rfl⟩
              obtain ⟨y, hy⟩ : ∃ y, y = wAt now k := ⟨_, rfl⟩
              rw [← hx] at d1 hs
              rw [← hy] at d2 hs
              clear hx hy
              rcases hs with rfl | ⟨rfl, rfl, i, i0, i1, ik⟩
              · have hne : (y != y) = false := by simp
                go_wp2
                go_quiet (fail)
                go_wp2
                go_roundw
                case rel => exact ⟨k + 1, by omega, by go_num, hN.kept0 ((Fr.refl _ _).drewN _), hL.kept0 ((Fr.refl _ _).drewN _), hFF.drewN _⟩
                case measure => simp [intOf]; omega
              · rw [← hca.out] at ik
                have r1 : ((k : Int) - ca) % 3 = 2 := by omega
                obtain ⟨dd, hdd⟩ : ∃ d : Nat, (k : Int) - ca = d := ⟨((k : Int) - ca).toNat, by omega⟩
                have r0 : IntKind.i64.wrap ((k : Int) - ca) = dd := by rw [w64 _ (by omega)]; exact hdd
                rw [hdd] at r1
                have r3 : Int.tmod (dd : Int) 3 = 2 := by rw [Int.tmod_eq_emod_of_nonneg (by omega)]; exact r1
                have r2 : decide ((k : Int) < ca) = false := by simp; omega
                clear ik i0 i1
                go_wp2
                go_quiet (fail)
                go_wp2
                go_roundw
                case rel => exact ⟨k + 1, by omega, by go_num, hN.kept0 ((Fr.refl _ _).drewN _), hL.kept0 ((Fr.refl _ _).drewN _), hFF.drewN _⟩
                case measure => simp [intOf]; omega
            · obtain rfl : k = nn := by omega
              go_wp2
              go_ret
              exact ⟨rfl, hFF⟩


end Go.Proofs.Yteggckdgjecfmaa
