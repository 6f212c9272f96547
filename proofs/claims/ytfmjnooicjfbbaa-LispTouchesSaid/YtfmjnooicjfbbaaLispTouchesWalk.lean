/- mudlarklaw14.LispTouches: the walk. -/
import Derived.Test.YtfmjnooicjfbbaaTouchP
import Derived.Test.YtfmjnooicjfbbaaRdAt
import Derived.Test.YtfmjnooicjfbbaaLisp
import Derived.Test.YtfmjnooicjfbbaaAwake14
import Derived.Test.YtfmjnooicjfbbaaHandMore
namespace Go.Proofs.Ytfmjnooicjfbbaa
open Go.RowKit
set_option linter.unusedVariables false
set_option linter.unusedSimpArgs false

theorem right_small {c : Cfg} (hR : c.Right) : (0 ≤ c.muts ∧ c.muts ≤ 64) ∧ (0 ≤ c.regs ∧ c.regs ≤ 64) ∧ (0 ≤ c.globs ∧ c.globs ≤ 64) ∧ ∀ o : Int, 0 ≤ o → o < c.muts → 0 ≤ o * c.regs ∧ o * c.regs ≤ 4096 := by
  obtain ⟨a1, a2, a3, a4, a5, a6, a7, a8⟩ := hR
  refine ⟨by omega, by omega, by omega, fun o o0 o1 => ⟨Int.mul_nonneg o0 (by omega), ?_⟩⟩
  have : o * c.regs ≤ 64 * 64 := Int.mul_le_mul (by omega) (by omega) (by omega) (by omega)
  omega

set_option maxRecDepth 100000 in
set_option maxHeartbeats 8000000 in
theorem lispTouches_any (c : Cfg) (v : Value) (l : List Int) (mm : Int) (x : MutV) (wf_x : x.Wf) (w : World) (hv : RdS w v l.length (u64s l)) (hl : l.length ≤ 35184372088832) (hwf : ∀ y, y ∈ l → 0 ≤ y ∧ y < 18446744073709551616) :
    Calls Try.prog 13 #[c.val, v, .int .i64 mm, x.val] w fun e w' => e = .returned (.bool true) ∧ Fr [] w w' := by
  obtain ⟨ua, uc, rfl, hu⟩ := hv.elim
  clear hu
  by_cases hbo : bothOk c l.length
  case neg =>
    have HBo := fun W (f : Fr [] w W) => hid (both_no (w := W) c _ l (hv.kept0 f) hbo hl)
    clear hv hbo hl hwf
    obtain ⟨cc, cm, cr, cg⟩ := c
    obtain ⟨linex, okx, oax, obx, ocx, ax, bx, cx, nx, tx, px, backx, retx⟩ := x
    go_enter Try.func13, Try.ntmps13
    have hX0 := Blk.new (w.alloc (.cells #[.int .i64 cc, .int .i64 cm, .int .i64 cr, .int .i64 cg] 45)) [.int .i64 linex, .int .i64 okx, .int .i64 oax, .int .i64 obx, .int .i64 ocx, .int .u64 ax, .int .u64 bx, .int .u64 cx, .int .u64 nx, .int .u64 tx, .int .u64 px, .int .i64 backx, .int .i64 retx] 54
    simp only [World.size_alloc] at hX0
    have hB := (Blk.new w [.int .i64 cc, .int .i64 cm, .int .i64 cr, .int .i64 cg] 45).alloc (.cells #[.int .i64 linex, .int .i64 okx, .int .i64 oax, .int .i64 obx, .int .i64 ocx, .int .u64 ax, .int .u64 bx, .int .u64 cx, .int .u64 nx, .int .u64 tx, .int .u64 px, .int .i64 backx, .int .i64 retx] 54)
    have kB := hB.cell
    have kX0 := hX0.cell
    have hFF := ((Fr.refl [] w).alloc (.cells #[.int .i64 cc, .int .i64 cm, .int .i64 cr, .int .i64 cg] 45)).alloc (.cells #[.int .i64 linex, .int .i64 okx, .int .i64 oax, .int .i64 obx, .int .i64 ocx, .int .u64 ax, .int .u64 bx, .int .u64 cx, .int .u64 nx, .int .u64 tx, .int .u64 px, .int .i64 backx, .int .i64 retx] 54)
    go_wp2_with (first | (go_at_call 60; refine (awake14_any _).mono ?_; rintro e w2 ⟨rfl, hF2⟩; (replace hB := hB.kept hF2 List.not_mem_nil); (replace kB := hB.cell); (replace hX0 := hX0.kept hF2 List.not_mem_nil); (replace kX0 := hX0.cell); (replace hFF := hFF.trans hF2)) | (go_at_call 42; refine (HBo _ hFF).out.mono ?_; rintro e w5 ⟨rfl, hF2⟩; (replace hB := hB.kept hF2 List.not_mem_nil); (replace kB := hB.cell); (replace hX0 := hX0.kept hF2 List.not_mem_nil); (replace kX0 := hX0.cell); (replace hFF := hFF.trans hF2)))
    go_ret
    exact ⟨rfl, hFF⟩
  obtain ⟨hgr, hR, hlen⟩ := hbo
  have hpos := hR.words_pos
  have HBo := fun W (f : Fr [] w W) => hid (both_ok (w := W) hgr hR _ l (hv.kept0 f) hlen hwf)
  obtain ⟨lb, lo, rfl, lbl⟩ := hv.base (by omega)
  have hL := hv
  have n_hL : ∀ h db, w.heap.size ≤ h → w.heap.size ≤ db → ∀ b, Value.ownBlock (.slice (some ⟨lb, lo, none⟩) l.length uc) = some b → b ∉ [h, db] := by
    intro h db e1 e2 b hb; cases hb; simp; omega
  have hwx := wf_x
  obtain ⟨s0, hs0⟩ : ∃ s : HS, s = ⟨c, l, Acc.z⟩ := ⟨_, rfl⟩
  have hw0 := hid (show s0.ws = l by rw [hs0])
  have hcc := hid (show s0.c = c by rw [hs0])
  replace hs0 := hid hs0
  have hc1 := hR.c0
  have hc2 := hR.c1
  have hcA := cA_bd hR
  have hcw := cA_words c
  obtain ⟨nn, hnn⟩ : ∃ z, z = l.length := ⟨_, rfl⟩
  rw [← hnn] at hL n_hL hlen HBo ⊢
  have hnn2 : nn ≤ 20000 := by omega
  have hnw : (nn : Int) - 3 * c.cells = c.cA := by omega
  replace hnn := hid hnn
  obtain ⟨ca, hca⟩ : ∃ z, z = c.cA := ⟨_, rfl⟩
  rw [← hca] at hcA hnw
  replace hca := hid hca
  clear hcw
  replace hlen := hid hlen
  clear hv hl hpos hgr
  have HX := fun (W : World) (h ab db : Nat) (H : HAt W h ab db s0) => lisp_any H mm x hwx
  have HT := touch (s := s0) ⟨by rw [hcc.out]; exact hR, by rw [hw0.out, ← hnn.out, hcc.out]; exact hlen.out⟩ mm x
  rw [hcc.out, hw0.out, ← hnn.out] at HT
  obtain ⟨s2, hs2⟩ : ∃ z, z = (lispM s0 mm x).s := ⟨_, rfl⟩
  rw [← hs2] at HX HT
  obtain ⟨y2, hy2⟩ : ∃ z, z = (lispM s0 mm x).x := ⟨_, rfl⟩
  obtain ⟨li, hli⟩ : ∃ z, z = (lispM s0 mm x).lin := ⟨_, rfl⟩
  obtain ⟨dn, hdn⟩ : ∃ z, z = (lispM s0 mm x).done := ⟨_, rfl⟩
  rw [← hy2, ← hli, ← hdn] at HX
  clear hs2 hy2 hli hdn hwx hwf
  obtain ⟨T1, T2, T3⟩ := HT
  obtain ⟨now, hnow⟩ : ∃ z, z = s2.ws := ⟨_, rfl⟩
  rw [← hnow] at T2 T3
  have HAll := hid (fun (W : World) (h ab db : Nat) (H : HAt W h ab db s2) => HAt.allN H hnow.symm T2)
  have hSl := hid T2
  obtain ⟨ac, hac⟩ : ∃ z, z = s2.acc := ⟨_, rfl⟩
  have HKc := hid (fun (W : World) (h ab db : Nat) (H : HAt W h ab db s2) => (show ∀ i, W.cell? ⟨h, i, none⟩ = (hcs ab c ac)[i]? from by rw [hac]; exact H.cellsC T1))
  rw [← hac] at T3
  clear hac hnow T1 T2
  have hRb := hid (right_small hR)
  replace T3 := hid T3
  replace HX := hid HX
  obtain ⟨kd, pl, px, py, old⟩ := ac
  obtain ⟨linex, okx, oax, obx, ocx, ax, bx, cx, nx, tx, px, backx, retx⟩ := x
  obtain ⟨cc, cm, cr, cg⟩ := c
  simp only at hc1 hc2 hnw
  go_enter Try.func13, Try.ntmps13
  have hX0 := Blk.new (w.alloc (.cells #[.int .i64 cc, .int .i64 cm, .int .i64 cr, .int .i64 cg] 45)) [.int .i64 linex, .int .i64 okx, .int .i64 oax, .int .i64 obx, .int .i64 ocx, .int .u64 ax, .int .u64 bx, .int .u64 cx, .int .u64 nx, .int .u64 tx, .int .u64 px, .int .i64 backx, .int .i64 retx] 54
  simp only [World.size_alloc] at hX0
  have hB := (Blk.new w [.int .i64 cc, .int .i64 cm, .int .i64 cr, .int .i64 cg] 45).alloc (.cells #[.int .i64 linex, .int .i64 okx, .int .i64 oax, .int .i64 obx, .int .i64 ocx, .int .u64 ax, .int .u64 bx, .int .u64 cx, .int .u64 nx, .int .u64 tx, .int .u64 px, .int .i64 backx, .int .i64 retx] 54)
  have kB := hB.cell
  have kX0 := hX0.cell
  have hFF := ((Fr.refl [] w).alloc (.cells #[.int .i64 cc, .int .i64 cm, .int .i64 cr, .int .i64 cg] 45)).alloc (.cells #[.int .i64 linex, .int .i64 okx, .int .i64 oax, .int .i64 obx, .int .i64 ocx, .int .u64 ax, .int .u64 bx, .int .u64 cx, .int .u64 nx, .int .u64 tx, .int .u64 px, .int .i64 backx, .int .i64 retx] 54)
  go_wp2_with (first | (go_at_call 60; refine (awake14_any _).mono ?_; rintro e w2 ⟨rfl, hF2⟩; (replace hB := hB.kept hF2 List.not_mem_nil); (replace kB := hB.cell); (replace hX0 := hX0.kept hF2 List.not_mem_nil); (replace kX0 := hX0.cell); (replace hFF := hFF.trans hF2)) | (go_at_call 42; refine (HBo _ hFF).out.mono ?_; rintro e w5 ⟨⟨h, ab, db, r, rd, cap, ext, rfl, HH, HR, q1, q2, q3, q4, q5, d1, d2, d3, d4, d5, d6⟩, hF2⟩; (replace HH := HH.to hs0.out.symm); clear HR d1 d2 d3 d4 d5 d6 q4 q5; (replace hL := hL.kept0 (hFF.trans hF2)); (have lBB := hB.lt); (have lXX := hX0.lt); (replace hB := hB.kept hF2 List.not_mem_nil); (replace kB := hB.cell); (replace hX0 := hX0.kept hF2 List.not_mem_nil); (replace kX0 := hX0.cell); (have nB : w.heap.size ∉ [h, db] := by simp; omega); (have nX0 : w.heap.size + 1 ∉ [h, db] := by simp; omega); (have n_hL := n_hL h db (Nat.le_trans hFF.size q1) (Nat.le_trans hFF.size q3)); (have hSS := fun i (m : i ∈ [h, db]) (l : i < w.heap.size) => (show i ∈ ([] : List Nat) by simp at m; omega)); (have sF := hFF.size); (have zz1 := Nat.le_trans sF q1); (have zz2 := Nat.le_trans sF q2); (have zz3 := Nat.le_trans sF q3); (replace hFF := hFF.trans hF2); (have kH := HH.cellsC hcc.out)) | (go_at_call 61; refine (HX.out _ _ _ _ HH).mono ?_; rintro e w8 ⟨rfl, HH, hF2⟩; (replace hB := hB.kept hF2 nB); (replace kB := hB.cell); (replace hX0 := hX0.kept hF2 nX0); (replace kX0 := hX0.cell); (replace hL := hL.kept hF2 n_hL); (replace hFF := hFF.trans_new hF2 hSS); clear HX; (have kH := HKc.out _ _ _ _ HH)) | (go_at_call 45; refine (HAll.out _ _ _ _ HH).mono ?_; rintro e w9 ⟨⟨g, capn, ext, rfl, hD, qn⟩, hF2⟩; (replace hB := hB.kept hF2 List.not_mem_nil); (replace kB := hB.cell); (replace hX0 := hX0.kept hF2 List.not_mem_nil); (replace kX0 := hX0.cell); (replace HH := HH.kept0 hF2); (replace hL := hL.kept0 hF2); (replace hFF := hFF.trans hF2); (have hN := RdS.ofN hD capn hSl.out); (replace kH := HKc.out _ _ _ _ HH)))
  clear kH hX0 kX0 kB
  obtain ⟨⟨g1, g2⟩, ⟨g3, g4⟩, ⟨g5, g6⟩, g7⟩ := hRb.out
  try simp only at g1 g2 g3 g4 g5 g6 g7
  replace g7 := hid g7
  go_loopw [13] (fun i wr => ∃ (k : Nat), k ≤ nn ∧ i = .int .i64 k ∧ RdS wr (.slice (some ⟨g, 0, none⟩) nn capn) nn (u64s now) ∧ RdS wr (.slice (some ⟨lb, lo, none⟩) nn uc) nn (u64s l) ∧ HAt wr h ab db s2 ∧ Blk wr w.heap.size 45 [.int .i64 cc, .int .i64 cm, .int .i64 cr, .int .i64 cg] ∧ Fr [] w wr) (fun i _ => nn - (intOf i).toNat)
  case atStart => exact ⟨0, by omega, rfl, hN, hL, HH, hB, hFF⟩
  case round =>
    clear hN hL HH hB hFF
    obtain ⟨k, hk, rfl, hN, hL, HH, hB, hFF⟩ := hrel
    by_cases hlt : k < nn
    · have hs := T3.out k hlt
      have d1 := hL.at k (by rw [← hnn.out]; exact hlt)
      have d2 := hN.at k (by rw [hSl.out]; exact hlt)
      simp only [Nat.zero_add] at d2
      obtain ⟨u, hu⟩ : ∃ u, u = wAt l k := ⟨_, rfl⟩
      obtain ⟨y, hy⟩ : ∃ y, y = wAt now k := ⟨_, rfl⟩
      rw [← hu] at d1 hs
      rw [← hy] at d2 hs
      clear hu hy
      by_cases hne : y = u
      · subst hne
        clear hs
        have b0 : (y == y) = true := by simp
        go_wp2
        go_quiet (fail)
        go_wp2
        go_roundw
        case rel => exact ⟨k + 1, by omega, by go_num, hN.kept0 ((Fr.refl _ _).drewN _), hL.kept0 ((Fr.refl _ _).drewN _), HH.kept0 ((Fr.refl _ _).drewN _), hB.kept ((Fr.refl _ _).drewN _) List.not_mem_nil, hFF.drewN _⟩
        case measure => simp [intOf]; omega
      · obtain ⟨h1, h2, h3, h4⟩ := hs.resolve_left hne
        try simp only at h1 h2 h3 h4
        subst h1 h3
        have kH := HKc.out _ _ _ _ HH
        have b0 : (y == old) = false := beq_eq_false_iff_ne.2 hne
        have b1 : (((k : Nat) : Int) != (k : Int)) = false := by simp
        have b2 : decide (kd < 2) = false := by simp; omega
        have b3 : (old != old) = false := by simp
        clear hne
        replace h4 := hid h4
        replace h2 := hid h2
        go_wp2
        go_quiet (fail)
        go_wp2
        go_quiet (fail)
        go_wp2
        clear b0 b1 b2 b3 kH h2
        go_loopw [14] (fun i wr => ∃ (o : Int), 0 ≤ o ∧ o ≤ cm ∧ i = .int .i64 o ∧ RdS wr (.slice (some ⟨g, 0, none⟩) nn capn) nn (u64s now) ∧ RdS wr (.slice (some ⟨lb, lo, none⟩) nn uc) nn (u64s l) ∧ HAt wr h ab db s2 ∧ Blk wr w.heap.size 45 [.int .i64 cc, .int .i64 cm, .int .i64 cr, .int .i64 cg] ∧ Fr [] w wr) (fun i _ => (cm - intOf i).toNat)
        case atStart => first | exact ⟨0, by omega, by omega, rfl, hN.kept0 ((Fr.refl _ _).drewN _), hL.kept0 ((Fr.refl _ _).drewN _), HH.kept0 ((Fr.refl _ _).drewN _), hB.kept ((Fr.refl _ _).drewN _) List.not_mem_nil, hFF.drewN _⟩ | exact ⟨0, by omega, by omega, rfl, hN.kept0 (((Fr.refl _ _).drewN _).drewN _), hL.kept0 (((Fr.refl _ _).drewN _).drewN _), HH.kept0 (((Fr.refl _ _).drewN _).drewN _), hB.kept (((Fr.refl _ _).drewN _).drewN _) List.not_mem_nil, (hFF.drewN _).drewN _⟩
        case round =>
          clear hN hL HH hB hFF
          obtain ⟨o, o0, o1, rfl, hN, hL, HH, hB, hFF⟩ := hrel
          have kB := hB.cell
          by_cases hlo : o < cm
          · by_cases hom : mm = o
            · have b5 : (o == mm) = true := by rw [hom]; simp
              clear hom
              go_wp2
              go_roundw
              case rel => exact ⟨o + 1, by omega, by omega, by go_num, hN, hL, HH, hB, hFF⟩
              case measure => simp [intOf]; omega
            · obtain ⟨f1, f2⟩ := h4.out o o0 hlo (fun e => hom e.symm)
              obtain ⟨q0, q1⟩ := g7.out o o0 hlo
              try simp only at f1 f2 q0 q1
              have b5 : (o == mm) = false := beq_eq_false_iff_ne.2 (fun e => hom e.symm)
              have b6 : ((k : Int) == 5 + o) = false := beq_eq_false_iff_ne.2 f1
              obtain ⟨q, hq⟩ : ∃ q, q = o * cr := ⟨_, rfl⟩
              rw [← hq] at f2 q0 q1
              have e1 : IntKind.i64.wrap (o * cr) = q := by rw [← hq]; exact w64 _ (by omega)
              by_cases hge : 5 + cm + cg + q ≤ (k : Int)
              · have b7 : decide (5 + cm + cg + q ≤ (k : Int)) = true := by simpa using hge
                have b8 : decide ((k : Int) < 5 + cm + cg + q + cr) = false := by simp; omega
                clear hom f1 f2 hge hq
                go_wp2
                go_roundw
                case rel => exact ⟨o + 1, by omega, by omega, by go_num, hN, hL, HH, hB, hFF⟩
                case measure => simp [intOf]; omega
              · have b7 : decide (5 + cm + cg + q ≤ (k : Int)) = false := by simp; omega
                clear hom f1 f2 hge hq
                go_wp2
                go_roundw
                case rel => exact ⟨o + 1, by omega, by omega, by go_num, hN, hL, HH, hB, hFF⟩
                case measure => simp [intOf]; omega
          · have b9 : decide (o < cm) = false := by simp; omega
            clear hlo
            go_wp2
            go_roundw
            case rel => exact ⟨k + 1, by omega, by go_num, hN, hL, HH, hB, hFF⟩
            case measure => simp [intOf]; omega
    · obtain rfl : k = nn := by omega
      go_wp2
      go_ret
      exact ⟨rfl, hFF⟩

end Go.Proofs.Ytfmjnooicjfbbaa
