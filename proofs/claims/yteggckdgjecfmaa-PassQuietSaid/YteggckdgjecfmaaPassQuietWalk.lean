/- mudlarklaw16.PassQuiet: the walk. -/
import Derived.Test.YteggckdgjecfmaaPassQP
import Derived.Test.YteggckdgjecfmaaRdAt
import Derived.Test.YteggckdgjecfmaaPaAny
import Derived.Test.YteggckdgjecfmaaAwake16
import Derived.Test.YteggckdgjecfmaaCBox
import Derived.Test.YteggckdgjecfmaaHandMore
import Derived.Test.YteggckdgjecfmaaLaw10
namespace Go.Proofs.Yteggckdgjecfmaa
open Go.RowKit
set_option linter.unusedVariables false
set_option linter.unusedSimpArgs false

set_option maxRecDepth 100000 in
set_option maxHeartbeats 8000000 in
theorem passQuiet_any (c : Cfg) (v : Value) (l : List Int) (w : World) (hv : RdS w v l.length (u64s l)) (hl : l.length ≤ 35184372088832) (hwf : ∀ y, y ∈ l → 0 ≤ y ∧ y < 18446744073709551616) :
    Calls Try.prog 21 #[c.val, v] w fun e w' => e = .returned (.bool true) ∧ Fr [] w w' := by
  obtain ⟨ua, uc, rfl, hu⟩ := hv.elim
  clear hu
  by_cases hbo : bothOk c l.length
  case neg =>
    have HBo := fun W (f : Fr [] w W) => hid (both_no (w := W) c _ l (hv.kept0 f) hbo hl)
    clear hv hbo hl hwf
    obtain ⟨cc, cm, cr, cg⟩ := c
    go_enter Try.func21, Try.ntmps21
    have hB := Blk.new w [.int .i64 cc, .int .i64 cm, .int .i64 cr, .int .i64 cg] 45
    have kB := hB.cell
    have hFF := (Fr.refl [] w).alloc (.cells #[.int .i64 cc, .int .i64 cm, .int .i64 cr, .int .i64 cg] 45)
    go_wp2_with (first | (go_at_call 77; refine (awake16_any _).mono ?_; rintro e w2 ⟨rfl, hF2⟩; (replace hB := hB.kept hF2 List.not_mem_nil); (replace kB := hB.cell); (replace hFF := hFF.trans hF2)) | (go_at_call 62; refine (HBo _ hFF).out.mono ?_; rintro e w5 ⟨rfl, hF2⟩; (replace hB := hB.kept hF2 List.not_mem_nil); (replace kB := hB.cell); (replace hFF := hFF.trans hF2)))
    go_ret
    exact ⟨rfl, hFF⟩
  obtain ⟨hgr, hR, hlen⟩ := hbo
  have hpos := hR.words_pos
  have HBo := fun W (f : Fr [] w W) => hid (both_ok (w := W) hgr hR _ l (hv.kept0 f) hlen hwf)
  obtain ⟨lb, lo, rfl, lbl⟩ := hv.base (by omega)
  have hL := hv
  have n_hL : ∀ h db, w.heap.size ≤ h → w.heap.size ≤ db → ∀ b, Value.ownBlock (.slice (some ⟨lb, lo, none⟩) l.length uc) = some b → b ∉ [h, db] := by
    intro h db e1 e2 b hb; cases hb; simp; omega
  have HGr := fun W (h : RdS W (.slice (some ⟨lb, lo, none⟩) l.length uc) l.length (u64s l)) => rgreys_n (w := W) hR _ l h hlen
  have hgr0 : ∀ z : Nat, z = (greysTo c l c.cells.toNat).length → z = 0 → greysTo c l c.cells.toNat = [] := fun z h e => List.eq_nil_of_length_eq_zero (by omega)
  obtain ⟨gn, hgn⟩ : ∃ z, z = (greysTo c l c.cells.toNat).length := ⟨_, rfl⟩
  rw [← hgn] at HGr
  replace hgr0 := hgr0 gn hgn
  clear hgn
  have HSt := hid (fun (h0 : gn = 0) (n : Nat) (s : HS) (x : ColV) (h : PqAt c l n s x) (hn : (n : Int) ≤ c.cells) => h.step hR hlen (hgr0 h0) hn)
  have HWf := hid (fun (n : Nat) (s : HS) (x : ColV) (h : PqAt c l n s x) => h.wf hR)
  have HEn := hid (fun (n : Nat) (s : HS) (x : ColV) (h : PqAt c l n s x) (hn : c.cells < n) => h.ends hR hn)
  have HCp := fun W (h : RdS W (.slice (some ⟨lb, lo, none⟩) l.length uc) l.length (u64s l)) => hid (rCopy_n (w := W) h (by omega) ⟨by omega, rfl⟩ hwf)
  clear hgr0
  obtain ⟨s0, hs0⟩ : ∃ s : HS, s = ⟨c, l, Acc.z⟩ := ⟨_, rfl⟩
  have hw0 := hid (show s0.ws = l by rw [hs0])
  have hcc := hid (show s0.c = c by rw [hs0])
  replace hs0 := hid hs0
  have hc1 := hR.c0
  have hc2 := hR.c1
  have hcA := cA_bd hR
  have hcw := cA_words c
  obtain ⟨nn, hnn⟩ : ∃ z, z = l.length := ⟨_, rfl⟩
  rw [← hnn] at hL n_hL hlen HBo ⊢
  have hnn2 : nn ≤ 20000 := by omega
  have hnw : (nn : Int) - 3 * c.cells = c.cA := by omega
  replace hnn := hid hnn
  obtain ⟨ca, hca⟩ : ∃ z, z = c.cA := ⟨_, rfl⟩
  rw [← hca] at hcA hnw
  replace hca := hid hca
  clear hcw
  replace hlen := hid hlen
  clear hv hl hpos hgr
  rw [← hnn.out] at HGr HCp
  replace HGr := hid HGr
  replace HCp := hid HCp
  obtain ⟨cl, hcl⟩ : ∃ z : Nat, (z : Int) = c.cells := ⟨c.cells.toNat, by omega⟩
  replace hcl := hid hcl
  obtain ⟨cc, cm, cr, cg⟩ := c
  simp only at hc1 hc2 hnw
  go_enter Try.func21, Try.ntmps21
  have hB := Blk.new w [.int .i64 cc, .int .i64 cm, .int .i64 cr, .int .i64 cg] 45
  have kB := hB.cell
  have hFF := (Fr.refl [] w).alloc (.cells #[.int .i64 cc, .int .i64 cm, .int .i64 cr, .int .i64 cg] 45)
  go_wp2_with (first | (go_at_call 77; refine (awake16_any _).mono ?_; rintro e w2 ⟨rfl, hF2⟩; (replace hB := hB.kept hF2 List.not_mem_nil); (replace kB := hB.cell); (replace hFF := hFF.trans hF2)) | (go_at_call 62; refine (HBo _ hFF).out.mono ?_; rintro e w5 ⟨⟨h, ab, db, r, rd, cap, ext, rfl, HH, HR, q1, q2, q3, q4, q5, d1, d2, d3, d4, d5, d6⟩, hF2⟩; (replace HH := HH.to hs0.out.symm); clear HR d1 d2 d3 d4 d5 d6 q4 q5; (replace hL := hL.kept0 (hFF.trans hF2)); (have lBB := hB.lt); (replace hB := hB.kept hF2 List.not_mem_nil); (replace kB := hB.cell); (have nB : w.heap.size ∉ [h, db] := by simp; omega); (have hSS := fun i (m : i ∈ [h, db]) (l : i < w.heap.size) => (show i ∈ ([] : List Nat) by simp at m; omega)); (have sF := hFF.size); (have zz1 := Nat.le_trans sF q1); (have zz2 := Nat.le_trans sF q2); (have zz3 := Nat.le_trans sF q3); (replace hFF := hFF.trans hF2); (have kH := HH.cellsC hcc.out)))
  by_cases hg0 : gn = 0
  case neg =>
    have hg1 : 0 < (gn : Int) := by omega
    go_wp2_with (first | (go_at_call 81; refine (HGr.out _ hL).mono ?_; rintro e w6 ⟨⟨ga, gc, rfl⟩, hF2⟩; (replace hB := hB.kept hF2 List.not_mem_nil); (replace kB := hB.cell); (replace HH := HH.kept0 hF2); (replace kH := HH.cellsC hcc.out); (replace hL := hL.kept0 hF2); (replace hFF := hFF.trans hF2)))
    go_ret
    exact ⟨rfl, hFF⟩
  subst hg0
  go_wp2_with (first | (go_at_call 81; refine (HGr.out _ hL).mono ?_; rintro e w6 ⟨⟨ga, gc, rfl⟩, hF2⟩; (replace hB := hB.kept hF2 List.not_mem_nil); (replace kB := hB.cell); (replace HH := HH.kept0 hF2); (replace kH := HH.cellsC hcc.out); (replace hL := hL.kept0 hF2); (replace hFF := hFF.trans hF2)))
  replace n_hL := n_hL h db zz1 zz3
  have l1 := HH.blk.lt
  have l2 := HH.ar.hdr.lt
  have l3 := HH.ar.dat.lt
  have sF := hFF.size
  have hst : PqAt ⟨cc, cm, cr, cg⟩ l 0 s0 ⟨3, 0, 0, 0, 0, 0, true, 0, 0⟩ := .first rfl hcc.out hw0.out rfl
  obtain ⟨X, hXe⟩ : ∃ X, X = w6.heap.size := ⟨_, rfl⟩
  have hX := Blk.new w6 [.int .i64 3, .int .i64 0, .int .i64 0, .int .i64 0, .int .u64 0, .int .u64 0, .bool true, .int .i64 0, .int .i64 0] 86
  replace hFF := hFF.alloc (.cells #[.int .i64 3, .int .i64 0, .int .i64 0, .int .i64 0, .int .u64 0, .int .u64 0, .bool true, .int .i64 0, .int .i64 0] 86)
  replace HH := HH.alloc (.cells #[.int .i64 3, .int .i64 0, .int .i64 0, .int .i64 0, .int .u64 0, .int .u64 0, .bool true, .int .i64 0, .int .i64 0] 86)
  replace hB := hB.alloc (.cells #[.int .i64 3, .int .i64 0, .int .i64 0, .int .i64 0, .int .u64 0, .int .u64 0, .bool true, .int .i64 0, .int .i64 0] 86)
  replace hL := hL.alloc (.cells #[.int .i64 3, .int .i64 0, .int .i64 0, .int .i64 0, .int .u64 0, .int .u64 0, .bool true, .int .i64 0, .int .i64 0] 86)
  rw [← hXe] at hX ⊢
  have n1 : h ≠ X := by omega
  have n2 : ab ≠ X := by omega
  have n3 : db ≠ X := by omega
  have nX : X ∉ [h, db] := by simp; omega
  have dB : w.heap.size ≠ X := by omega
  have t0 : w.heap.size ≤ X := by omega
  have d_hL : Value.ownBlock (.slice (some ⟨lb, lo, none⟩) nn uc) ≠ some X := by intro e; have e2 : lb = X := Option.some.inj e; omega
  clear hXe l1 l2 l3 sF zz1 zz2 zz3 kB kH HBo hcc
  go_loopw [9] (fun i wr => ∃ (n : Nat) (s : HS) (x : ColV), n ≤ cl + 1 ∧ i = .int .i64 n ∧ PqAt ⟨cc, cm, cr, cg⟩ l n s x ∧ HAt wr h ab db s ∧ Blk wr X 86 [.int .i64 x.line, .int .i64 x.j, .int .i64 x.c, .int .i64 x.m, .int .u64 x.a, .int .u64 x.p, .bool x.found, .int .i64 x.tail, .int .i64 x.cyc] ∧ Blk wr w.heap.size 45 [.int .i64 cc, .int .i64 cm, .int .i64 cr, .int .i64 cg] ∧ RdS wr (.slice (some ⟨lb, lo, none⟩) nn uc) nn (u64s l) ∧ Fr [] w wr) (fun i _ => cl + 1 - (intOf i).toNat)
  case atStart => exact ⟨0, s0, ⟨3, 0, 0, 0, 0, 0, true, 0, 0⟩, by omega, rfl, hst, HH, hX, hB, hL, hFF⟩
  case round =>
    clear HH hX hB hL hFF hst
    obtain ⟨n, s, x, hn, rfl, hA, HH, hX, hB, hL, hFF⟩ := hrel
    have kB := hB.cell
    have hcl2 := hcl.out
    by_cases hln : n ≤ cl
    · have hle : (n : Int) ≤ cc := by omega
      obtain ⟨wf, nr⟩ := HWf.out n s x hA
      obtain ⟨hln2, hA2⟩ := HSt.out (by trivial) n s x hA hle
      have HX := fun (W : World) (H : HAt W h ab db s) => pa_any H x wf nr
      obtain ⟨s2, hs2⟩ : ∃ z, z = (passM s x).s := ⟨_, rfl⟩
      obtain ⟨is2, hi2⟩ : ∃ z, z = (passM s x).is := ⟨_, rfl⟩
      obtain ⟨y, hy⟩ : ∃ z, z = (passM s x).x := ⟨_, rfl⟩
      rw [← hs2, ← hy] at HX hA2
      rw [← hi2] at HX
      clear hs2 hy hi2 wf nr hA hcl2
      replace hA2 := hid hA2
      obtain ⟨line, j, c, m, a, p, found, tail, cyc⟩ := x
      obtain ⟨line2, j2, c2, m2, a2, p2, found2, tail2, cyc2⟩ := y
      simp only [ColV.val] at HX
      simp only at hln2 hX
      replace HX := hid HX
      have kX := hX.cell
      have fX := hX.free
      have d0 := hFF.size
      have lX := hX.lt
      rcases hln2 with rfl | rfl
      · go_wp2_with (first | (go_at_call 78; refine (HX.out _ HH).mono ?_; rintro e w8 ⟨rfl, HH, hF2⟩; (replace hX := hX.kept hF2 nX); (replace kX := hX.cell); (replace fX := hX.free); (replace hB := hB.kept hF2 nB); (replace kB := hB.cell); (replace hL := hL.kept hF2 n_hL); (replace hFF := hFF.trans_new hF2 hSS)))
        replace hX := hX.set9 (.int .i64 line2) (.int .i64 j2) (.int .i64 c2) (.int .i64 m2) (.int .u64 a2) (.int .u64 p2) (.bool found2) (.int .i64 tail2) (.int .i64 cyc2)
        go_roundw
        case rel =>
          refine ⟨n + 1, s2, ⟨line2, j2, c2, m2, a2, p2, found2, tail2, cyc2⟩, by omega, by go_num, hA2.out, ?_, hX, ?_, ?_, ?_⟩
          · repeat (first | with_reducible exact HH | with_reducible refine HAt.other ?_ n1 n2 n3 _)
          · repeat (first | with_reducible exact hB | with_reducible refine Blk.other ?_ dB _)
          · repeat (first | with_reducible exact hL | with_reducible refine RdS.other ?_ d_hL _)
          · repeat (first | with_reducible exact hFF | with_reducible refine Fr.setNew ?_ t0 _)
        case measure => simp [intOf]; omega
      · go_wp2_with (first | (go_at_call 78; refine (HX.out _ HH).mono ?_; rintro e w8 ⟨rfl, HH, hF2⟩; (replace hX := hX.kept hF2 nX); (replace kX := hX.cell); (replace fX := hX.free); (replace hB := hB.kept hF2 nB); (replace kB := hB.cell); (replace hL := hL.kept hF2 n_hL); (replace hFF := hFF.trans_new hF2 hSS)))
        replace hX := hX.set9 (.int .i64 line2) (.int .i64 j2) (.int .i64 c2) (.int .i64 m2) (.int .u64 a2) (.int .u64 p2) (.bool found2) (.int .i64 tail2) (.int .i64 cyc2)
        go_roundw
        case rel =>
          refine ⟨n + 1, s2, ⟨line2, j2, c2, m2, a2, p2, found2, tail2, cyc2⟩, by omega, by go_num, hA2.out, ?_, hX, ?_, ?_, ?_⟩
          · repeat (first | with_reducible exact HH | with_reducible refine HAt.other ?_ n1 n2 n3 _)
          · repeat (first | with_reducible exact hB | with_reducible refine Blk.other ?_ dB _)
          · repeat (first | with_reducible exact hL | with_reducible refine RdS.other ?_ d_hL _)
          · repeat (first | with_reducible exact hFF | with_reducible refine Fr.setNew ?_ t0 _)
        case measure => simp [intOf]; omega
    · obtain rfl : n = cl + 1 := by omega
      have hgt : cc < (((cl + 1 : Nat)) : Int) := by omega
      obtain ⟨e1, e2, e3, e4, _⟩ := HEn.out _ s x hA hgt
      have hcc := hid hA.cfg
      have HAll := hid (fun (W : World) (H : HAt W h ab db s) => HAt.allN (n := nn) H e4 (by rw [List.length_set]; exact hnn.out.symm))
      have hls : Hid ((l.set 2 0).length = nn) := hid (by rw [List.length_set]; exact hnn.out.symm)
      clear hA hln e4 hcl2
      obtain ⟨line, j, c, m, a, p, found, tail, cyc⟩ := x
      simp only at e1 e2 e3 hX
      subst e1
      subst e2
      subst e3
      have kX := hX.cell
      have kH := HH.cellsC hcc.out
      have lh := HH.blk.lt
      have lha := HH.ar.hdr.lt
      have hFF0 := hFF
      have s0F := hFF.size
      have ld := HH.ar.dat.lt
      have lX := hX.lt
      go_wp2_with (first | (go_at_call 27; refine ((HCp.out _ hL).out).mono ?_; rintro e w9 ⟨⟨gcp, capc, ext, rfl, hC, q1⟩, hF2⟩; (replace hX := hX.kept hF2 List.not_mem_nil); (replace kX := hX.cell); (replace hB := hB.kept hF2 List.not_mem_nil); (replace kB := hB.cell); (replace HH := HH.kept0 hF2); (replace kH := HH.cellsC hcc.out); (replace hL := hL.kept0 hF2); (replace hFF := hFF.trans hF2); (have fC := hC.dat.free); (have sE := hFF0.size); (have lA := HH.ar.hdr.lt); (have nXg : ¬ X = gcp := by omega); (have nXg2 : ¬ gcp = X := by omega); (have nhg : ¬ h = gcp := by omega); (have nhg2 : ¬ gcp = h := by omega); (have ndg : ¬ db = gcp := by omega); (have nag : ¬ ab = gcp := by omega); (have d2 := hC.at 2 (by rw [← hnn.out]; omega)); (have hE := hC.set 2 (by rw [← hnn.out]; omega) 0 (by omega)); (have hE2 := RdS.ofN hE capc hls.out); (have hXs := hX.other (p := ⟨gcp, 2, none⟩) nXg (.int .u64 0)); (have HHs := HH.other (p := ⟨gcp, 2, none⟩) nhg nag ndg (.int .u64 0)); (have hFFs := hFF.setNew (p := ⟨gcp, 2, none⟩) (by show w.heap.size ≤ gcp; omega) (.int .u64 0)); clear hX HH hFF hB hL hE hC kB) | (go_at_call 56; refine (HAll.out _ HHs).mono ?_; rintro e w10 ⟨⟨g, capn, ext, rfl, hD, q1⟩, hF2⟩; (replace hXs := hXs.kept hF2 List.not_mem_nil); (have kX := hXs.cell); (have hN := RdS.ofN hD capn hls.out); (replace hE2 := hE2.kept0 hF2); (replace hFFs := hFFs.trans hF2)) | (go_at_call 32; refine (same_n hls.out hnn2 hN hE2).mono ?_; rintro e w11 ⟨rfl, hF2⟩; (replace hXs := hXs.kept hF2 List.not_mem_nil); (have kX := hXs.cell); (replace hFFs := hFFs.trans hF2)))
      go_ret
      exact ⟨rfl, hFFs⟩

end Go.Proofs.Yteggckdgjecfmaa
