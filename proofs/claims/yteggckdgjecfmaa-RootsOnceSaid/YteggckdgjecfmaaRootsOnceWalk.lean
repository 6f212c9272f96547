/- mudlarklaw15.RootsOnce: the walk. -/
import Derived.Test.YteggckdgjecfmaaRootsP
import Derived.Test.YteggckdgjecfmaaRdAt
import Derived.Test.YteggckdgjecfmaaRootsAny
import Derived.Test.YteggckdgjecfmaaRootsBeg
import Derived.Test.YteggckdgjecfmaaNear
import Derived.Test.YteggckdgjecfmaaAtAll
import Derived.Test.YteggckdgjecfmaaAwake15
import Derived.Test.YteggckdgjecfmaaCBox
import Derived.Test.YteggckdgjecfmaaHandMore
namespace Go.Proofs.Yteggckdgjecfmaa
open Go.RowKit
set_option linter.unusedVariables false
set_option linter.unusedSimpArgs false

set_option maxRecDepth 100000 in
set_option maxHeartbeats 8000000 in
theorem rootsOnce_any (c : Cfg) (v : Value) (l : List Int) (w : World) (hv : RdS w v l.length (u64s l)) (hl : l.length ≤ 35184372088832) (hwf : ∀ y, y ∈ l → 0 ≤ y ∧ y < 18446744073709551616) :
    Calls Try.prog 17 #[c.val, v] w fun e w' => e = .returned (.bool true) ∧ Fr [] w w' := by
  obtain ⟨ua, uc, rfl, hu⟩ := hv.elim
  clear hu
  by_cases hbo : bothOk c l.length
  case neg =>
    have HBo := fun W (f : Fr [] w W) => hid (both_no (w := W) c _ l (hv.kept0 f) hbo hl)
    clear hv hbo hl hwf
    obtain ⟨cc, cm, cr, cg⟩ := c
    go_enter Try.func17, Try.ntmps17
    have hB := Blk.new w [.int .i64 cc, .int .i64 cm, .int .i64 cr, .int .i64 cg] 45
    have kB := hB.cell
    have hFF := (Fr.refl [] w).alloc (.cells #[.int .i64 cc, .int .i64 cm, .int .i64 cr, .int .i64 cg] 45)
    go_wp2_with (first | (go_at_call 71; refine (awake15_any _).mono ?_; rintro e w2 ⟨rfl, hF2⟩; (replace hB := hB.kept hF2 List.not_mem_nil); (replace kB := hB.cell); (replace hFF := hFF.trans hF2)) | (go_at_call 62; refine (HBo _ hFF).out.mono ?_; rintro e w5 ⟨rfl, hF2⟩; (replace hB := hB.kept hF2 List.not_mem_nil); (replace kB := hB.cell); (replace hFF := hFF.trans hF2)))
    go_ret
    exact ⟨rfl, hFF⟩
  obtain ⟨hgr, hR, hlen⟩ := hbo
  have hpos := hR.words_pos
  have HBo := fun W (f : Fr [] w W) => hid (both_ok (w := W) hgr hR _ l (hv.kept0 f) hlen hwf)
  obtain ⟨lb, lo, rfl, lbl⟩ := hv.base (by omega)
  have hL := hv
  have n_hL : ∀ h db, w.heap.size ≤ h → w.heap.size ≤ db → ∀ b, Value.ownBlock (.slice (some ⟨lb, lo, none⟩) l.length uc) = some b → b ∉ [h, db] := by
    intro h db e1 e2 b hb; cases hb; simp; omega
  have HRo := hid (fun W => rRoots_any hR W)
  have HRt := hid (fun (j : Nat) (hj : (j : Int) < 1000000) W => rRoot_any hR j (by omega) W)
  have HIs := hid (fun (k : Int) W => rIsCell_any (wAt l k) (wAt_bd hwf k).1 (wAt_bd hwf k).2 W)
  have HRin := hid (fun (j : Nat) (h1 : (j : Int) < c.roots) => rootP_in hR j (by omega) h1)
  have HLw := hid (wAt_bd hwf)
  have HL1 := hid (shRoots_bd (wAt_bd hwf) c.roots.toNat (c := c))
  have HSl := hid (shRoots_len c l c.roots.toNat)
  have hrb := roots_bd hR
  have HAg := hid (shRoots_again hR l hlen c.roots.toNat c.roots.toNat (Nat.le_refl _) (by omega))
  obtain ⟨many, hmany⟩ : ∃ z, z = c.roots := ⟨_, rfl⟩
  rw [← hmany] at HRo hrb
  obtain ⟨mn, rfl⟩ : ∃ z : Nat, many = z := ⟨many.toNat, by omega⟩
  have hmt : c.roots.toNat = mn := by omega
  rw [hmt] at HSl HAg HL1
  rw [← hmany] at HRin
  clear hmt
  replace hmany := hid hmany
  obtain ⟨s0, hs0⟩ : ∃ s : HS, s = ⟨c, l, Acc.z⟩ := ⟨_, rfl⟩
  have hw0 := hid (show s0.ws = l by rw [hs0])
  have hcc := hid (show s0.c = c by rw [hs0])
  replace hs0 := hid hs0
  have hc1 := hR.c0
  have hc2 := hR.c1
  have hcA := cA_bd hR
  have hcw := cA_words c
  obtain ⟨nn, hnn⟩ : ∃ z, z = l.length := ⟨_, rfl⟩
  rw [← hnn] at hL n_hL hlen HBo ⊢
  have hnn2 : nn ≤ 20000 := by omega
  have hnw : (nn : Int) - 3 * c.cells = c.cA := by omega
  replace hnn := hid hnn
  obtain ⟨ca, hca⟩ : ∃ z, z = c.cA := ⟨_, rfl⟩
  rw [← hca] at hcA hnw
  replace hca := hid hca
  clear hcw
  replace hlen := hid hlen
  clear hv hl hpos hgr
  obtain ⟨cc, cm, cr, cg⟩ := c
  simp only at hc1 hc2 hnw
  go_enter Try.func17, Try.ntmps17
  have hB := Blk.new w [.int .i64 cc, .int .i64 cm, .int .i64 cr, .int .i64 cg] 45
  have kB := hB.cell
  have hFF := (Fr.refl [] w).alloc (.cells #[.int .i64 cc, .int .i64 cm, .int .i64 cr, .int .i64 cg] 45)
  go_wp2_with (first | (go_at_call 71; refine (awake15_any _).mono ?_; rintro e w2 ⟨rfl, hF2⟩; (replace hB := hB.kept hF2 List.not_mem_nil); (replace kB := hB.cell); (replace hFF := hFF.trans hF2)) | (go_at_call 62; refine (HBo _ hFF).out.mono ?_; rintro e w5 ⟨⟨h, ab, db, r, rd, cap, ext, rfl, HH, HR, q1, q2, q3, q4, q5, d1, d2, d3, d4, d5, d6⟩, hF2⟩; (replace HH := HH.to hs0.out.symm); clear HR d1 d2 d3 d4 d5 d6 q4 q5; (replace hL := hL.kept0 (hFF.trans hF2)); (have lBB := hB.lt); (replace hB := hB.kept hF2 List.not_mem_nil); (replace kB := hB.cell); (have nB : w.heap.size ∉ [h, db] := by simp; omega); (have hSS := fun i (m : i ∈ [h, db]) (l : i < w.heap.size) => (show i ∈ ([] : List Nat) by simp at m; omega)); (have sF := hFF.size); (have zz1 := Nat.le_trans sF q1); (have zz2 := Nat.le_trans sF q2); (have zz3 := Nat.le_trans sF q3); (replace hFF := hFF.trans hF2); (have kH := HH.cellsC hcc.out)) | (go_at_call 72; refine (HRo.out _).mono ?_; rintro e w6 ⟨rfl, hF2⟩; (replace hB := hB.kept hF2 List.not_mem_nil); (replace kB := hB.cell); (replace HH := HH.kept0 hF2); (replace kH := HH.cellsC hcc.out); (replace hL := hL.kept0 hF2); (replace hFF := hFF.trans hF2)))
  replace n_hL := n_hL h db zz1 zz3
  have sF2 := hFF.size
  clear kB kH
  go_loopw [9, 10] (fun t i wr => ∃ j S : Nat, j ≤ mn ∧ S = shSteps ⟨cc, cm, cr, cg⟩ l j ∧ i = .int .i64 j ∧ t = .int .i64 (S : Nat) ∧ HAt wr h ab db s0 ∧ Blk wr w.heap.size 45 [.int .i64 cc, .int .i64 cm, .int .i64 cr, .int .i64 cg] ∧ RdS wr (.slice (some ⟨lb, lo, none⟩) nn uc) nn (u64s l) ∧ Fr [] w wr) (fun _ i _ => mn - (intOf i).toNat)
  case atStart => exact ⟨0, 0, by omega, rfl, rfl, rfl, HH, hB, hL, hFF⟩
  case round =>
    clear HH hB hL hFF
    obtain ⟨j, S, hj, hS, rfl, rfl, HH, hB, hL, hFF⟩ := hrel
    have hsb := shSteps_le ⟨cc, cm, cr, cg⟩ l j
    rw [← hS] at hsb
    have kB := hB.cell
    by_cases hlt : j < mn
    · obtain ⟨z0, z1⟩ := HRin.out j (by omega)
      have HR1 := fun W => HRt.out j (by omega) W
      have HSS := shSteps_succ ⟨cc, cm, cr, cg⟩ l j
      rw [← hS] at HSS
      clear hS
      obtain ⟨zz, hzz⟩ : ∃ z, z = Cfg.rootP ⟨cc, cm, cr, cg⟩ j := ⟨_, rfl⟩
      rw [← hzz] at z0 z1 HR1 HSS
      clear hzz
      obtain ⟨z, rfl⟩ : ∃ n : Nat, zz = n := ⟨zz.toNat, by omega⟩
      rw [← hca.out] at z1
      have zl : z < nn := by omega
      have HI1 := fun W => HIs.out z W
      have RL := fun W (h : RdS W (.slice (some ⟨lb, lo, none⟩) nn uc) nn (u64s l)) => h.at z (by rw [← hnn.out]; exact zl)
      have ub := (HLw.out z).1
      obtain ⟨u, hu⟩ : ∃ u, u = wAt l z := ⟨_, rfl⟩
      rw [← hu] at HI1 RL HSS ub
      clear hu
      obtain ⟨S1, hS1⟩ : ∃ S, S = shSteps ⟨cc, cm, cr, cg⟩ l (j + 1) := ⟨_, rfl⟩
      rw [← hS1] at HSS
      replace hS1 := hid hS1
      replace HR1 := hid HR1
      replace RL := hid RL
      by_cases hc : isCell u = true
      · rw [if_pos hc] at HSS
        rw [cellN_yes hc] at HI1
        obtain ⟨q, hq⟩ : ∃ q, q = u / 2 := ⟨_, rfl⟩
        rw [← hq] at HI1
        have q0 : 0 ≤ q := by omega
        clear hq hc ub
        replace HI1 := hid HI1
        have e2 := HSS
        replace HSS := hid HSS
        replace e2 : Hid (S1 = S + 2) := hid e2
        go_wp2_with (first | (go_at_call 75; refine (HR1.out _).mono ?_; rintro e w10 ⟨rfl, hF2⟩; (replace hB := hB.kept hF2 List.not_mem_nil); (replace kB := hB.cell); (replace HH := HH.kept0 hF2); (replace hL := hL.kept0 hF2); (replace hFF := hFF.trans hF2); (have d1 := RL.out _ hL)) | (go_at_call 57; refine (HI1.out _).mono ?_; rintro e w11 ⟨rfl, rfl⟩))
        go_roundw
        case rel => exact ⟨j + 1, S1, by omega, hS1.out, by go_num, by rw [e2.out]; go_num, HH, hB, hL, hFF⟩
        case measure => simp [intOf]; omega
      · rw [if_neg hc] at HSS
        rw [cellN_no (by simpa using hc)] at HI1
        clear hc ub
        replace HI1 := hid HI1
        have e2 := HSS
        replace HSS := hid HSS
        replace e2 : Hid (S1 = S + 1) := hid e2
        go_wp2_with (first | (go_at_call 75; refine (HR1.out _).mono ?_; rintro e w10 ⟨rfl, hF2⟩; (replace hB := hB.kept hF2 List.not_mem_nil); (replace kB := hB.cell); (replace HH := HH.kept0 hF2); (replace hL := hL.kept0 hF2); (replace hFF := hFF.trans hF2); (have d1 := RL.out _ hL)) | (go_at_call 57; refine (HI1.out _).mono ?_; rintro e w11 ⟨rfl, rfl⟩))
        go_roundw
        case rel => exact ⟨j + 1, S1, by omega, hS1.out, by go_num, by rw [e2.out]; go_num, HH, hB, hL, hFF⟩
        case measure => simp [intOf]; omega
    · obtain rfl : j = mn := by omega
      clear hlt HRt HIs HRin
      have hS2 := hid hS
      clear hS
      go_wp2_with fail
      obtain ⟨L1, hL1⟩ : ∃ z, z = shRoots ⟨cc, cm, cr, cg⟩ l j := ⟨_, rfl⟩
      rw [← hL1] at HSl HL1 HAg
      rw [← hS2.out] at HAg
      have HSl2 : Hid (L1.length = nn) := hid (HSl.out.trans hnn.out.symm)
      have d0 := HH.blk.lt
      go_loopw [11, 12] (fun v0 a wr => ∃ (k : Nat) (s : HS) (lw : List Int) (v : Value), v = v0 ∧ k ≤ 2 ∧ a = .int .i64 k ∧ s.c = ⟨cc, cm, cr, cg⟩ ∧ s.ws = lw ∧ (∀ k, 0 ≤ wAt lw k ∧ wAt lw k < 18446744073709551616) ∧ shRoots ⟨cc, cm, cr, cg⟩ lw j = L1 ∧ shSteps ⟨cc, cm, cr, cg⟩ lw j = S ∧ HAt wr h ab db s ∧ Blk wr w.heap.size 45 [.int .i64 cc, .int .i64 cm, .int .i64 cr, .int .i64 cg] ∧ (∀ b, v.ownBlock = some b → w.heap.size ≤ b ∧ b < wr.heap.size ∧ b ∉ [h, db]) ∧ (k = 1 → ∃ g cp, v = .slice (some ⟨g, 0, none⟩) nn cp ∧ RdS wr v nn (u64s L1)) ∧ Fr [] w wr) (fun _ a _ => 2 - (intOf a).toNat)
      case atStart => exact ⟨0, s0, l, _, rfl, by omega, rfl, hcc.out, hw0.out, HLw.out, hL1.symm, hS2.out.symm, HH, hB, by simp [Value.ownBlock], by omega, hFF⟩
      case round =>
        clear HH hB hFF
        obtain ⟨k, s, lw, v, rfl, hk, rfl, hsc, hsw, hlb, hw1, hw2, HH, hB, hv1, hv2, hFF⟩ := hrel
        have kB := hB.cell
        by_cases hlt : k < 2
        · clear hcc
          have hcc := hid hsc
          go_wp2_with (first | (go_at_call 73; refine (rbegin15_any 0 0 0 0 0 0 0 0 false _).mono ?_; rintro e w7 ⟨rfl, hF2⟩; (replace hB := hB.kept hF2 List.not_mem_nil); (replace kB := hB.cell); (replace HH := HH.kept0 hF2); (replace kH := HH.cellsC hcc.out); (replace hFF := hFF.trans hF2); (have hU7 := fun e : k = 1 => (hv2 e).choose_spec.choose_spec.2.kept0 hF2); (have sU := hF2.size)))
          have l1 := HH.blk.lt
          have l2 := HH.ar.hdr.lt
          have l3 := HH.ar.dat.lt
          have sF := hFF.size
          have hst : RsAt ⟨cc, cm, cr, cg⟩ lw 0 s ⟨1, 0, 0, 0, 0, 0, false, 0, 0⟩ := RsAt.start hR lw hcc.out hsw
          replace hst := hid hst
          replace hw1 := hid hw1
          replace hw2 := hid hw2
          replace hlb := hid hlb
          obtain ⟨X, hXe⟩ : ∃ X, X = w7.heap.size := ⟨_, rfl⟩
          have hX := Blk.new w7 [.int .i64 1, .int .i64 0, .int .i64 0, .int .i64 0, .int .u64 0, .int .u64 0, .bool false, .int .i64 0, .int .i64 0] 86
          have hv3 : k = 1 → RdS (w7.alloc (.cells #[.int .i64 1, .int .i64 0, .int .i64 0, .int .i64 0, .int .u64 0, .int .u64 0, .bool false, .int .i64 0, .int .i64 0] 86)) v nn (u64s L1) := by
            intro e; obtain ⟨_, _, _, h9⟩ := hv2 e; exact (hU7 e).alloc _
          replace hFF := hFF.alloc (.cells #[.int .i64 1, .int .i64 0, .int .i64 0, .int .i64 0, .int .u64 0, .int .u64 0, .bool false, .int .i64 0, .int .i64 0] 86)
          replace HH := HH.alloc (.cells #[.int .i64 1, .int .i64 0, .int .i64 0, .int .i64 0, .int .u64 0, .int .u64 0, .bool false, .int .i64 0, .int .i64 0] 86)
          replace hB := hB.alloc (.cells #[.int .i64 1, .int .i64 0, .int .i64 0, .int .i64 0, .int .u64 0, .int .u64 0, .bool false, .int .i64 0, .int .i64 0] 86)
          rw [← hXe] at hX ⊢
          have n1 : h ≠ X := by omega
          have n2 : ab ≠ X := by omega
          have n3 : db ≠ X := by omega
          have nX : X ∉ [h, db] := by simp; omega
          have dB : w.heap.size ≠ X := by omega
          have t0 : w.heap.size ≤ X := by omega
          have d_hU : v.ownBlock ≠ some X := by intro e; have := hv1 X e; omega
          have n_hU : ∀ b, v.ownBlock = some b → b ∉ [h, db] := fun b e => (hv1 b e).2.2
          have hvs : k = 1 → ∃ g cp, v = .slice (some ⟨g, 0, none⟩) nn cp := fun e => by obtain ⟨g, cp, h9, _⟩ := hv2 e; exact ⟨g, cp, h9⟩
          replace hv3 := hid hv3
          replace hvs := hid hvs
          clear hXe l1 l2 l3 sF sU kB kH hv1 hv2 hsc hsw hcc
          go_loopw [14] (fun i wr => ∃ (n : Nat) (s : HS) (x : ColV), n ≤ S ∧ i = .int .i64 n ∧ RsAt ⟨cc, cm, cr, cg⟩ lw n s x ∧ HAt wr h ab db s ∧ Blk wr X 86 [.int .i64 x.line, .int .i64 x.j, .int .i64 x.c, .int .i64 x.m, .int .u64 x.a, .int .u64 x.p, .bool x.found, .int .i64 x.tail, .int .i64 x.cyc] ∧ Blk wr w.heap.size 45 [.int .i64 cc, .int .i64 cm, .int .i64 cr, .int .i64 cg] ∧ (k = 1 → RdS wr v nn (u64s L1)) ∧ Fr [] w wr) (fun i _ => S - (intOf i).toNat)
          case atStart => exact ⟨0, s, ⟨1, 0, 0, 0, 0, 0, false, 0, 0⟩, by omega, rfl, hst.out, HH, hX, hB, hv3.out, hFF⟩
          case round =>
            clear HH hX hB hFF hst hv3
            obtain ⟨n, s, x, hn, rfl, hA, HH, hX, hB, hU, hFF⟩ := hrel
            replace hU := hid hU
            by_cases hnS : n < S
            · have hln : x.line = 1 ∨ x.line = 2 := by
                rcases hA.line with h | h | h
                · exact .inl h
                · exact .inr h
                · have h2 := h.2.2.2
                  rw [← hmany.out, show ((j : Int)).toNat = j by omega, hw2.out] at h2
                  omega
              obtain ⟨wf, nr⟩ := hA.wf hR hlb.out
              obtain ⟨his, hA2⟩ := hA.step hR hln
              have HX := fun (W : World) (H : HAt W h ab db s) => rs_any H x wf nr
              rw [his] at HX
              obtain ⟨s2, hs2⟩ : ∃ z, z = (rsM s x).s := ⟨_, rfl⟩
              obtain ⟨y, hy⟩ : ∃ z, z = (rsM s x).x := ⟨_, rfl⟩
              rw [← hs2, ← hy] at HX hA2
              clear hs2 hy his wf nr hA
              replace hA2 := hid hA2
              obtain ⟨line, j, c, m, a, p, found, tail, cyc⟩ := x
              obtain ⟨line2, j2, c2, m2, a2, p2, found2, tail2, cyc2⟩ := y
              simp only [ColV.val] at HX
              simp only at hln hX
              replace HX := hid HX
              have kX := hX.cell
              have fX := hX.free
              have d0 := hFF.size
              have lX := hX.lt
              rcases hln with rfl | rfl
              · go_wp2_with (first | (go_at_call 74; refine (HX.out _ HH).mono ?_; rintro e w8 ⟨rfl, HH, hF2⟩; (replace hX := hX.kept hF2 nX); (replace kX := hX.cell); (replace fX := hX.free); (replace hB := hB.kept hF2 nB); (replace kB := hB.cell); (replace hFF := hFF.trans_new hF2 hSS); (have hU := hid (fun e : k = 1 => (hU.out e).kept hF2 n_hU))))
                replace hX := hX.set9 (.int .i64 line2) (.int .i64 j2) (.int .i64 c2) (.int .i64 m2) (.int .u64 a2) (.int .u64 p2) (.bool found2) (.int .i64 tail2) (.int .i64 cyc2)
                go_roundw
                case rel =>
                  refine ⟨n + 1, s2, ⟨line2, j2, c2, m2, a2, p2, found2, tail2, cyc2⟩, by omega, by go_num, hA2.out, ?_, hX, ?_, ?_, ?_⟩
                  · repeat (first | with_reducible exact HH | with_reducible refine HAt.other ?_ n1 n2 n3 _)
                  · repeat (first | with_reducible exact hB | with_reducible refine Blk.other ?_ dB _)
                  · intro ha; repeat (first | with_reducible exact hU.out ha | with_reducible refine RdS.other ?_ d_hU _)
                  · repeat (first | with_reducible exact hFF | with_reducible refine Fr.setNew ?_ t0 _)
                case measure => simp [intOf]; omega
              · go_wp2_with (first | (go_at_call 74; refine (HX.out _ HH).mono ?_; rintro e w8 ⟨rfl, HH, hF2⟩; (replace hX := hX.kept hF2 nX); (replace kX := hX.cell); (replace fX := hX.free); (replace hB := hB.kept hF2 nB); (replace kB := hB.cell); (replace hFF := hFF.trans_new hF2 hSS); (have hU := hid (fun e : k = 1 => (hU.out e).kept hF2 n_hU))))
                replace hX := hX.set9 (.int .i64 line2) (.int .i64 j2) (.int .i64 c2) (.int .i64 m2) (.int .u64 a2) (.int .u64 p2) (.bool found2) (.int .i64 tail2) (.int .i64 cyc2)
                go_roundw
                case rel =>
                  refine ⟨n + 1, s2, ⟨line2, j2, c2, m2, a2, p2, found2, tail2, cyc2⟩, by omega, by go_num, hA2.out, ?_, hX, ?_, ?_, ?_⟩
                  · repeat (first | with_reducible exact HH | with_reducible refine HAt.other ?_ n1 n2 n3 _)
                  · repeat (first | with_reducible exact hB | with_reducible refine Blk.other ?_ dB _)
                  · intro ha; repeat (first | with_reducible exact hU.out ha | with_reducible refine RdS.other ?_ d_hU _)
                  · repeat (first | with_reducible exact hFF | with_reducible refine Fr.setNew ?_ t0 _)
                case measure => simp [intOf]; omega
            · obtain rfl : n = S := by omega
              obtain ⟨e1, e3⟩ : x.line = 3 ∧ s.ws = L1 := by
                rcases hA.line with h | h | h
                · have := (hA.n_lt (.inl h)).2
                  rw [← hmany.out, show ((j : Int)).toNat = j by omega, hw2.out] at this
                  omega
                · have := (hA.n_lt (.inr h)).2
                  rw [← hmany.out, show ((j : Int)).toNat = j by omega, hw2.out] at this
                  omega
                · have h2 := h.2.2.1
                  rw [← hmany.out, show ((j : Int)).toNat = j by omega, hw1.out] at h2
                  exact ⟨h.1, h2⟩
              have hcc := hid hA.cfg
              have HAll := hid (fun (W : World) (H : HAt W h ab db s) => HAt.allN H e3 HSl2.out)
              clear hA hnS
              obtain ⟨line, j, c, m, a, p, found, tail, cyc⟩ := x
              simp only at e1 hX
              subst e1
              replace e3 : Hid (s.ws = L1) := hid e3
              have kX := hX.cell
              have kH := HH.cellsC hcc.out
              have d9 := hFF.size
              have lh9 := HH.blk.lt
              have ld9 := HH.ar.dat.lt
              by_cases hk1 : k = 1
              · subst hk1
                obtain ⟨g0, cp0, rfl⟩ := hvs.out rfl
                replace hU := hU.out rfl
                go_wp2_with (first | (go_at_call 56; refine (HAll.out _ HH).mono ?_; rintro e w9 ⟨⟨g, capn, ext, rfl, hD, q1⟩, hF2⟩; (replace hX := hX.kept hF2 List.not_mem_nil); (replace kX := hX.cell); (replace hB := hB.kept hF2 List.not_mem_nil); (replace kB := hB.cell); (replace HH := HH.kept0 hF2); (replace kH := HH.cellsC hcc.out); (replace hFF := hFF.trans hF2); (have hN := RdS.ofN hD capn HSl2.out); (replace hU := hU.kept0 hF2); (have sz := hF2.size)) | (go_at_call 32; refine (same_n HSl2.out hnn2 hN hU).mono ?_; rintro e w10 ⟨rfl, hF2⟩; (replace hX := hX.kept hF2 List.not_mem_nil); (replace kX := hX.cell); (replace hB := hB.kept hF2 List.not_mem_nil); (replace kB := hB.cell); (replace HH := HH.kept0 hF2); (replace kH := HH.cellsC hcc.out); (replace hFF := hFF.trans hF2); (replace hU := hU.kept0 hF2); (have sz := hF2.size)))
                go_roundw
                case rel =>
                  refine ⟨2, s, L1, _, rfl, by omega, rfl, hcc.out, e3, HL1.out, HAg.out.1, HAg.out.2, HH, hB, ?_, ?_, hFF⟩
                  · intro b hb
                    obtain rfl : g = b := by simpa [Value.ownBlock] using hb
                    exact ⟨by omega, hD.dat.lt, by simp; omega⟩
                  · intro _; exact ⟨_, _, rfl, hN⟩
                case measure => simp [intOf]
              · obtain rfl : k = 0 := by omega
                clear hU
                go_wp2_with (first | (go_at_call 56; refine (HAll.out _ HH).mono ?_; rintro e w9 ⟨⟨g, capn, ext, rfl, hD, q1⟩, hF2⟩; (replace hX := hX.kept hF2 List.not_mem_nil); (replace kX := hX.cell); (replace hB := hB.kept hF2 List.not_mem_nil); (replace kB := hB.cell); (replace HH := HH.kept0 hF2); (replace kH := HH.cellsC hcc.out); (replace hFF := hFF.trans hF2); (have hN := RdS.ofN hD capn HSl2.out)))
                go_roundw
                case rel =>
                  refine ⟨1, s, L1, _, rfl, by omega, rfl, hcc.out, e3, HL1.out, HAg.out.1, HAg.out.2, HH, hB, ?_, ?_, hFF⟩
                  · intro b hb
                    obtain rfl : g = b := by simpa [Value.ownBlock] using hb
                    exact ⟨by omega, hD.dat.lt, by simp; omega⟩
                  · intro _; exact ⟨_, _, rfl, hN⟩
                case measure => simp [intOf]
        · obtain rfl : k = 2 := by omega
          go_wp2
          go_ret
          exact ⟨rfl, hFF⟩


end Go.Proofs.Yteggckdgjecfmaa
