/- mudlarklaw17.BarDirty: the walk. -/
import Derived.Test.YteggckdgjecfmaaBarDP
import Derived.Test.YteggckdgjecfmaaRdAt
import Derived.Test.YteggckdgjecfmaaBaAny
import Derived.Test.YteggckdgjecfmaaAwake17
import Derived.Test.YteggckdgjecfmaaCBox
import Derived.Test.YteggckdgjecfmaaHandMore
import Derived.Test.YteggckdgjecfmaaLaw10
namespace Go.Proofs.Yteggckdgjecfmaa
open Go.RowKit
set_option linter.unusedVariables false
set_option linter.unusedSimpArgs false

theorem RdS.news {w : World} {b o n cap : Nat} {l : List Int} (h : RdS w (.slice (some ⟨b, o, none⟩) n cap) n (u64s l)) : ∀ j u, (u64s l)[j]? = some u → w.cell? ((⟨b, o, none⟩ : Addr).add j) = some u := by
  intro j u hu
  have hj : j < (u64s l).length := by
    rcases Nat.lt_or_ge j (u64s l).length with h | h
    · exact h
    · rw [List.getElem?_eq_none h] at hu; cases hu
  rw [addr_add]
  rcases h with ⟨_, h2, _⟩ | ⟨b2, o2, cap2, e, _, hc⟩
  · rw [h2] at hj; simp at hj
  · cases e
    rw [hc j hj]; exact hu
theorem u64s_one (l : List Int) : ∀ u ∈ u64s l, u.oneCell' = true := by intro u hu; simp only [u64s, List.mem_map] at hu; obtain ⟨x, _, rfl⟩ := hu; rfl
theorem own_dat {w : World} {base : Nat} {t : TypeId} {v : Value} {l : List Int} (h : w.ownsRow base t 1 v l.length (u64s l)) (h0 : 0 < l.length) (hl : l.length ≤ 35184372088832) (hwf : ∀ x, x ∈ l → 0 ≤ x ∧ x < 18446744073709551616) (ht : t = 36) :
    ∃ g cap ext, v = .slice (some ⟨g, 0, none⟩) l.length cap ∧ DAt w g l ext ∧ base ≤ g := by
  subst ht
  obtain ⟨_, ⟨rfl, hz⟩ | ⟨g, cap, cur, rfl, hg, hb, hnc, hcm, hcs, ht⟩⟩ := h
  · omega
  · refine ⟨g, cap, cur.toList.drop l.length, rfl, ⟨?_, by omega, hwf⟩, hg⟩
    rw [Nat.mul_one] at ht
    unfold Blk
    rw [← ht, List.take_append_drop]
    exact hb

set_option maxRecDepth 100000 in
set_option maxHeartbeats 8000000 in
theorem barDirty_any (c : Cfg) (v : Value) (l : List Int) (w : World) (hv : RdS w v l.length (u64s l)) (hl : l.length ≤ 17592186044416) (hwf : ∀ y, y ∈ l → 0 ≤ y ∧ y < 18446744073709551616) :
    Calls Try.prog 13 #[c.val, v] w fun e w' => e = .returned (.bool true) ∧ Fr [] w w' := by
  obtain ⟨ua, uc, rfl, hu⟩ := hv.elim
  clear hu
  by_cases hm : 0 ≤ c.muts ∧ c.muts ≤ 12
  case neg =>
    clear hv
    obtain ⟨cc, cm, cr, cg⟩ := c
    simp only at hm
    by_cases hm0 : cm < 0
    · clear hm
      go_enter Try.func13, Try.ntmps13
      have hB := Blk.new w [.int .i64 cc, .int .i64 cm, .int .i64 cr, .int .i64 cg] 45
      have kB := hB.cell
      have hFF := (Fr.refl [] w).alloc (.cells #[.int .i64 cc, .int .i64 cm, .int .i64 cr, .int .i64 cg] 45)
      go_wp2_with (first | (go_at_call 67; refine (awake17_any _).mono ?_; rintro e w2 ⟨rfl, hF2⟩; (replace hB := hB.kept hF2 List.not_mem_nil); (replace kB := hB.cell); (replace hFF := hFF.trans hF2)))
      all_goals (go_ret; exact ⟨rfl, hFF⟩)
    · have hm1 : 12 < cm := by omega
      replace hm0 : 0 ≤ cm := by omega
      clear hm
      go_enter Try.func13, Try.ntmps13
      have hB := Blk.new w [.int .i64 cc, .int .i64 cm, .int .i64 cr, .int .i64 cg] 45
      have kB := hB.cell
      have hFF := (Fr.refl [] w).alloc (.cells #[.int .i64 cc, .int .i64 cm, .int .i64 cr, .int .i64 cg] 45)
      go_wp2_with (first | (go_at_call 67; refine (awake17_any _).mono ?_; rintro e w2 ⟨rfl, hF2⟩; (replace hB := hB.kept hF2 List.not_mem_nil); (replace kB := hB.cell); (replace hFF := hFF.trans hF2)))
      all_goals (go_ret; exact ⟨rfl, hFF⟩)
  obtain ⟨hm0, hm1⟩ := hm
  by_cases h5 : (l.length : Int) < 5 + c.muts
  · clear hv
    obtain ⟨cc, cm, cr, cg⟩ := c
    simp only at hm0 hm1 h5
    go_enter Try.func13, Try.ntmps13
    have hB := Blk.new w [.int .i64 cc, .int .i64 cm, .int .i64 cr, .int .i64 cg] 45
    have kB := hB.cell
    have hFF := (Fr.refl [] w).alloc (.cells #[.int .i64 cc, .int .i64 cm, .int .i64 cr, .int .i64 cg] 45)
    go_wp2_with (first | (go_at_call 67; refine (awake17_any _).mono ?_; rintro e w2 ⟨rfl, hF2⟩; (replace hB := hB.kept hF2 List.not_mem_nil); (replace kB := hB.cell); (replace hFF := hFF.trans hF2)))
    all_goals (go_ret; exact ⟨rfl, hFF⟩)
  have hpos : 0 < l.length := by omega
  obtain ⟨lb, lo, rfl, lbl⟩ := hv.base hpos
  obtain ⟨mn, hmn⟩ : ∃ z : Nat, c.muts = z := ⟨c.muts.toNat, by omega⟩
  have l5 : 5 + mn ≤ l.length := by omega
  obtain ⟨l2, hl2⟩ : ∃ z, z = idleTo l mn := ⟨_, rfl⟩
  have hlen2 : l2.length = l.length := by rw [hl2, idleTo_len]
  have hwf2 : ∀ y, y ∈ l2 → 0 ≤ y ∧ y < 18446744073709551616 := by rw [hl2]; exact idleTo_bd hwf mn
  have hwf1 := hid (fun k => idleTo_bd hwf k)
  have hidle : ∀ i : Nat, (i : Int) < c.muts → wAt l2 (5 + i) % 4 = 0 := by intro i hi; rw [hl2]; exact idleTo_idle l mn i (by omega) l5
  have HY := hid (fun W g cap (hO : RdS W (.slice (some ⟨g, 0, none⟩) l2.length cap) l2.length (u64s l2)) (h : bothOk c l2.length) => both_ok (w := W) h.1 h.2.1 _ l2 hO h.2.2 hwf2)
  have HN := hid (fun W g cap (hO : RdS W (.slice (some ⟨g, 0, none⟩) l2.length cap) l2.length (u64s l2)) (h : ¬ bothOk c l2.length) => both_no (w := W) c _ l2 hO h (by omega))
  obtain ⟨s0, hs0⟩ : ∃ s : HS, s = ⟨c, l2, Acc.z⟩ := ⟨_, rfl⟩
  have hw0 := hid (show s0.ws = l2 by rw [hs0])
  have hcc := hid (show s0.c = c by rw [hs0])
  replace hs0 := hid hs0
  have HSt := hid (fun (hbo : bothOk c l2.length) (n f : Nat) (s : HS) (x : ColV) (h : BdAt c l2 n f s x) (hn : (n : Int) < 2 * c.muts + 3) => h.step hbo.2.1 hbo.2.2 hidle hn)
  have HWf := hid (fun (hbo : bothOk c l2.length) (n f : Nat) (s : HS) (x : ColV) (h : BdAt c l2 n f s x) => h.wf hbo.2.1)
  have HEn := hid (fun (hbo : bothOk c l2.length) (n f : Nat) (s : HS) (x : ColV) (h : BdAt c l2 n f s x) (hn : (n : Int) = 2 * c.muts + 3) => h.ends hn hbo.2.1.m0)
  have hbq := hid (Classical.em (bothOk c l2.length))
  have hmb := fun (h : bothOk c l2.length) => h.2.1.m0
  have HL5 : Hid (bothOk c l2.length → 8 ≤ l2.length ∧ l2.length ≤ 20000) := hid (fun h => by have := h.2.1.words_pos; have := h.2.2; omega)
  obtain ⟨bo, hbo⟩ : ∃ b, b = bothOk c l2.length := ⟨_, rfl⟩
  rw [← hbo] at HY HN HSt HWf HEn hbq HL5 hmb
  clear hbo
  obtain ⟨nn, hnn⟩ : ∃ z, z = l.length := ⟨_, rfl⟩
  rw [hlen2, ← hnn] at HY HN
  rw [hlen2, ← hnn] at HL5
  have hlen3 : Hid (l2.length = nn) := hid (by rw [hlen2, hnn])
  obtain ⟨i0, hi, hz0, hz1, hz2⟩ := info_parts infoW
  obtain ⟨cc, cm, cr, cg⟩ := c
  simp only at hmn hm0 hm1 h5
  subst hmn
  have h5' : 5 + (mn : Int) ≤ (l.length : Int) := by omega
  have hl' : l.length ≤ 17592186044416 := hl
  clear hidle hwf2 hlen2 h5
  go_enter Try.func13, Try.ntmps13
  have hB := Blk.new w [.int .i64 cc, .int .i64 (mn : Int), .int .i64 cr, .int .i64 cg] 45
  have kB := hB.cell
  have hFF := (Fr.refl [] w).alloc (.cells #[.int .i64 cc, .int .i64 (mn : Int), .int .i64 cr, .int .i64 cg] 45)
  go_wp2_with (first | (go_at_call 67; refine (awake17_any _).mono ?_; rintro e w2 ⟨rfl, hF2⟩; (replace hB := hB.kept hF2 List.not_mem_nil); (replace kB := hB.cell); (replace hFF := hFF.trans hF2); (have hFF0 := hB.lt); (have hL := (hv.kept0 hFF).alloc (.cells #[] 36)); (have kB := (hB.alloc (.cells #[] 36)).cell)) | (at_builtin; refine wpList_append_own _ rfl _ _ 22 rfl w2.heap.size 36 i0 (.int .u64 0) 1 8 Try.underlying22 hi hz0 hz1 hz2 rfl (by decide) _ _ _ rfl (World.ownsRow_made w2 #[] 0 (Nat.le_refl _) (by simp [maxLen]) rfl) ⟨lb, lo, none⟩ l.length uc (u64s l) rfl (by simp) hL.news (u64s_one l) ?c3 ?c4 ?c5 ?_))
  case c3 => simp only [maxLen]; omega
  case c4 => omega
  case c5 => simp
  intro v' w1 hown1 hg1 _
  try rw [Nat.zero_add] at hown1
  try rw [List.nil_append] at hown1
  obtain ⟨g, cap, ext, rfl, hD, hgb⟩ := own_dat hown1 hpos (by omega) hwf rfl
  rw [← hnn] at h5' l5 hl' hl
  have sF := hFF.size
  have hB := (hB.alloc (.cells #[] 36))
  replace hB := blk_grown hB hg1 (by simp [Value.ownBlock]; have := hB.lt; omega)
  have hF1 : Fr [] w w1 := (hFF.alloc _).grown hg1 (fun j hj hj2 => by simp [Value.ownBlock] at hj; omega)
  have gB : w.heap.size ≤ g := Nat.le_trans sF hgb
  have gB2 : ¬ w.heap.size = g := by have h9 := hFF0; have := h9; omega
  replace hnn := hid hnn
  clear hown1 hg1 hgb kB hFF hL hv
  rw [← hnn.out]
  have kB := hB.cell
  go_wp2_with fail
  go_loopw [6] (fun i wr => ∃ k : Nat, k ≤ mn ∧ i = .int .i64 k ∧ DAt wr g (idleTo l k) ext ∧ Blk wr w.heap.size 45 [.int .i64 cc, .int .i64 (mn : Int), .int .i64 cr, .int .i64 cg] ∧ Fr [] w wr) (fun i _ => mn - (intOf i).toNat)
  case atStart => exact ⟨0, by omega, rfl, hD, hB, hF1⟩
  case round =>
    clear hD hB hF1 kB
    obtain ⟨k, hk, rfl, hD, hB, hFF⟩ := hrel
    have kB := hB.cell
    by_cases hlt : k < mn
    · have hsz : 5 + k < (idleTo l k).length := by rw [idleTo_len, ← hnn.out]; omega
      have d1 := hD.at (5 + k) hsz
      have fD := hD.dat.free
      have hE := hD.set (5 + k) hsz ((idleTo l k).getD (5 + k) 0 / 4 * 4) (by have := hwf1.out k _ (List.getElem_mem hsz); rw [List.getD_eq_getElem?_getD, List.getElem?_eq_getElem hsz]; simp only [Option.getD_some]; omega)
      rw [← idleTo_succ] at hE
      have hxb : 0 ≤ wAt (idleTo l k) ((5 + k : Nat) : Int) ∧ wAt (idleTo l k) ((5 + k : Nat) : Int) < 18446744073709551616 := wAt_bd (hwf1.out k) _
      rw [getD_wAt _ _ hsz] at hE
      obtain ⟨x, hx⟩ : ∃ x, x = wAt (idleTo l k) ((5 + k : Nat) : Int) := ⟨_, rfl⟩
      rw [← hx] at d1 hxb hE
      obtain ⟨hx0, hx1⟩ := hxb
      clear hx hsz
      have w1' : IntKind.u64.wrap (x / 4 * 4) = x / 4 * 4 := by show (x / 4 * 4) % 18446744073709551616 = x / 4 * 4; omega
      have w2' : IntKind.u64.wrap (x / 4) = x / 4 := by show (x / 4) % 18446744073709551616 = x / 4; omega
      have hkn : 5 + (k : Int) < nn := by omega
      go_wp2_with fail
      go_roundw
      case rel => exact ⟨k + 1, by omega, by go_num, hE, hB.other (p := ⟨g, 5 + k, none⟩) gB2 _, hFF.setNew (p := ⟨g, 5 + k, none⟩) gB _⟩
      case measure => simp [intOf]; omega
    · obtain rfl : mn = k := by omega
      rw [← hl2] at hD
      have hO := RdS.ofN hD cap hlen3.out
      rcases hbq.out with hb | hb
      case inr =>
        have HN1 := hid (fun W (h : RdS W (.slice (some ⟨g, 0, none⟩) nn cap) nn (u64s l2)) => HN.out W g cap h hb)
        go_wp2_with (first | (go_at_call 62; refine (HN1.out _ hO).mono ?_; rintro e w5 ⟨rfl, hF2⟩; (replace hB := hB.kept hF2 List.not_mem_nil); (replace kB := hB.cell); (replace hFF := hFF.trans hF2)))
        go_ret
        exact ⟨rfl, hFF⟩
      have HY1 := hid (fun W (h : RdS W (.slice (some ⟨g, 0, none⟩) nn cap) nn (u64s l2)) => HY.out W g cap h hb)
      have hb58 := HL5.out hb
      go_wp2_with (first | (go_at_call 62; refine (HY1.out _ hO).mono ?_; rintro e w5 ⟨⟨h, ab, db, r, rd, capr, extr, rfl, HH, HR, q1, q2, q3, q4, q5, d1, d2, d3, d4, d5, d6⟩, hF2⟩; (replace HH := HH.to hs0.out.symm); clear HR d1 d2 d3 d4 d5 d6 q4 q5; (have lBB := hB.lt); (have lg := hD.dat.lt); (replace hB := hB.kept hF2 List.not_mem_nil); (replace kB := hB.cell); (replace hD := hD.kept hF2 List.not_mem_nil); (have sF0 := hFF.size); (have nB : w.heap.size ∉ [h, db] := by simp; omega); (have n_g : g ∉ [h, db] := by simp; omega); (have nag : ¬ ab = g := by omega); (have hSS := fun i (m : i ∈ [h, db]) (l : i < w.heap.size) => (show i ∈ ([] : List Nat) by simp at m; omega)); (replace hFF := hFF.trans hF2); (have kH := HH.cellsC hcc.out)))
      have l1 := HH.blk.lt
      have l2' := HH.ar.hdr.lt
      have l3 := HH.ar.dat.lt
      have sF := hFF.size
      have hst : BdAt ⟨cc, (mn : Int), cr, cg⟩ l2 0 0 s0 ⟨10, 0, 0, 0, 0, 0, false, 0, 0⟩ := by
        by_cases hmz : mn = 0
        · exact absurd (hmb hb) (by first | omega | (simp only; omega))
        · exact .look 0 (by first | omega | (simp only; omega)) rfl rfl hcc.out hw0.out rfl
      obtain ⟨X, hXe⟩ : ∃ X, X = w5.heap.size := ⟨_, rfl⟩
      have hX := Blk.new w5 [.int .i64 10, .int .i64 0, .int .i64 0, .int .i64 0, .int .u64 0, .int .u64 0, .bool false, .int .i64 0, .int .i64 0] 86
      replace hFF := hFF.alloc (.cells #[.int .i64 10, .int .i64 0, .int .i64 0, .int .i64 0, .int .u64 0, .int .u64 0, .bool false, .int .i64 0, .int .i64 0] 86)
      replace HH := HH.alloc (.cells #[.int .i64 10, .int .i64 0, .int .i64 0, .int .i64 0, .int .u64 0, .int .u64 0, .bool false, .int .i64 0, .int .i64 0] 86)
      replace hB := hB.alloc (.cells #[.int .i64 10, .int .i64 0, .int .i64 0, .int .i64 0, .int .u64 0, .int .u64 0, .bool false, .int .i64 0, .int .i64 0] 86)
      replace hD := hD.alloc (.cells #[.int .i64 10, .int .i64 0, .int .i64 0, .int .i64 0, .int .u64 0, .int .u64 0, .bool false, .int .i64 0, .int .i64 0] 86)
      rw [← hXe] at hX ⊢
      have n1 : h ≠ X := by omega
      have n2 : ab ≠ X := by omega
      have n3 : db ≠ X := by omega
      have nX : X ∉ [h, db] := by simp; omega
      have dB : w.heap.size ≠ X := by omega
      have dg : g ≠ X := by omega
      have t0 : w.heap.size ≤ X := by omega
      clear hXe l1 l2' l3 sF kB kH HN HY HY1 hcc hO hbq
      go_loopw [11, 12] (fun fl i wr => ∃ (n f : Nat) (s : HS) (x : ColV), n ≤ 2 * mn + 3 ∧ i = .int .i64 n ∧ fl = .int .i64 f ∧ BdAt ⟨cc, (mn : Int), cr, cg⟩ l2 n f s x ∧ HAt wr h ab db s ∧ Blk wr X 86 [.int .i64 x.line, .int .i64 x.j, .int .i64 x.c, .int .i64 x.m, .int .u64 x.a, .int .u64 x.p, .bool x.found, .int .i64 x.tail, .int .i64 x.cyc] ∧ Blk wr w.heap.size 45 [.int .i64 cc, .int .i64 (mn : Int), .int .i64 cr, .int .i64 cg] ∧ DAt wr g l2 ext ∧ Fr [] w wr) (fun _ i _ => 2 * mn + 3 - (intOf i).toNat)
      case atStart => exact ⟨0, 0, s0, _, by omega, rfl, rfl, hst, HH, hX, hB, hD, hFF⟩
      case round =>
        clear HH hX hB hD hFF hst
        obtain ⟨n, f, s, x, hn, rfl, rfl, hA, HH, hX, hB, hD, hFF⟩ := hrel
        have kB := hB.cell
        by_cases hln : n < 2 * mn + 3
        · have hfl := hA.flips
          obtain ⟨wf, nr⟩ := HWf.out hb n f s x hA
          obtain ⟨his, hA2⟩ := HSt.out hb n f s x hA (by first | omega | (simp only; omega))
          have HX := fun (W : World) (H : HAt W h ab db s) => ba_any H x wf nr
          rw [his] at HX
          obtain ⟨s2, hs2⟩ : ∃ z, z = (barM s x).s := ⟨_, rfl⟩
          obtain ⟨fl, hfe⟩ : ∃ z, z = (barM s x).flip := ⟨_, rfl⟩
          obtain ⟨y, hy⟩ : ∃ z, z = (barM s x).x := ⟨_, rfl⟩
          rw [← hs2, ← hy, ← hfe] at HX hA2
          clear hs2 hy hfe wf nr hA his
          have b0 : (n : Int) < 2 * (mn : Int) + 3 := by omega
          obtain ⟨line, j, c, m, a, p, found, tail, cyc⟩ := x
          obtain ⟨line2, j2, c2, m2, a2, p2, found2, tail2, cyc2⟩ := y
          simp only [ColV.val] at HX
          simp only at hX
          replace HX := hid HX
          have kX := hX.cell
          have fX := hX.free
          have d0 := hFF.size
          have lX := hX.lt
          cases fl with
          | true =>
            simp only [if_true] at hA2
            replace hA2 := hid hA2
            go_wp2_with (first | (go_at_call 69; refine (HX.out _ HH).mono ?_; rintro e w8 ⟨rfl, HH, hF2⟩; (replace hX := hX.kept hF2 nX); (replace kX := hX.cell); (replace fX := hX.free); (replace hB := hB.kept hF2 nB); (replace kB := hB.cell); (replace hFF := hFF.trans_new hF2 hSS); (replace hD := hD.kept hF2 n_g); (have hX1 := hX.alloc (.cells #[.int .i64 line2, .int .i64 j2, .int .i64 c2, .int .i64 m2, .int .u64 a2, .int .u64 p2, .bool found2, .int .i64 tail2, .int .i64 cyc2] 86)); (have kX1 := hX1.cell); (have fX1 := hX1.free); (have lX8 := hX.lt); (have dx1 : ¬ X = w8.heap.size := by omega); (have dx2 : ¬ w8.heap.size = X := by omega)))
            replace hX := (hX.set9 (.int .i64 line2) (.int .i64 j2) (.int .i64 c2) (.int .i64 m2) (.int .u64 a2) (.int .u64 p2) (.bool found2) (.int .i64 tail2) (.int .i64 cyc2)).alloc (.cells #[.int .i64 line2, .int .i64 j2, .int .i64 c2, .int .i64 m2, .int .u64 a2, .int .u64 p2, .bool found2, .int .i64 tail2, .int .i64 cyc2] 86)
            go_roundw
            case rel =>
              refine ⟨n + 1, _, s2, ⟨line2, j2, c2, m2, a2, p2, found2, tail2, cyc2⟩, by omega, by go_num, by go_num, hA2.out, ?_, hX, ?_, ?_, ?_⟩
              · refine HAt.alloc ?_ _
                repeat (first | with_reducible exact HH | with_reducible refine HAt.other ?_ n1 n2 n3 _)
              · refine Blk.alloc ?_ _
                repeat (first | with_reducible exact hB | with_reducible refine Blk.other ?_ dB _)
              · refine DAt.alloc ?_ _
                repeat (first | with_reducible exact hD | with_reducible refine DAt.other ?_ dg _)
              · refine Fr.alloc ?_ _
                repeat (first | with_reducible exact hFF | with_reducible refine Fr.setNew ?_ t0 _)
            case measure => simp [intOf]; omega
          | false =>
            simp only [Bool.false_eq_true, if_false] at hA2
            replace hA2 := hid hA2
            go_wp2_with (first | (go_at_call 69; refine (HX.out _ HH).mono ?_; rintro e w8 ⟨rfl, HH, hF2⟩; (replace hX := hX.kept hF2 nX); (replace kX := hX.cell); (replace fX := hX.free); (replace hB := hB.kept hF2 nB); (replace kB := hB.cell); (replace hFF := hFF.trans_new hF2 hSS); (replace hD := hD.kept hF2 n_g); (have hX1 := hX.alloc (.cells #[.int .i64 line2, .int .i64 j2, .int .i64 c2, .int .i64 m2, .int .u64 a2, .int .u64 p2, .bool found2, .int .i64 tail2, .int .i64 cyc2] 86)); (have kX1 := hX1.cell); (have fX1 := hX1.free); (have lX8 := hX.lt); (have dx1 : ¬ X = w8.heap.size := by omega); (have dx2 : ¬ w8.heap.size = X := by omega)))
            replace hX := (hX.set9 (.int .i64 line2) (.int .i64 j2) (.int .i64 c2) (.int .i64 m2) (.int .u64 a2) (.int .u64 p2) (.bool found2) (.int .i64 tail2) (.int .i64 cyc2)).alloc (.cells #[.int .i64 line2, .int .i64 j2, .int .i64 c2, .int .i64 m2, .int .u64 a2, .int .u64 p2, .bool found2, .int .i64 tail2, .int .i64 cyc2] 86)
            go_roundw
            case rel =>
              refine ⟨n + 1, _, s2, ⟨line2, j2, c2, m2, a2, p2, found2, tail2, cyc2⟩, by omega, by go_num, rfl, hA2.out, ?_, hX, ?_, ?_, ?_⟩
              · refine HAt.alloc ?_ _
                repeat (first | with_reducible exact HH | with_reducible refine HAt.other ?_ n1 n2 n3 _)
              · refine Blk.alloc ?_ _
                repeat (first | with_reducible exact hB | with_reducible refine Blk.other ?_ dB _)
              · refine DAt.alloc ?_ _
                repeat (first | with_reducible exact hD | with_reducible refine DAt.other ?_ dg _)
              · refine Fr.alloc ?_ _
                repeat (first | with_reducible exact hFF | with_reducible refine Fr.setNew ?_ t0 _)
            case measure => simp [intOf]; omega
        · obtain rfl : n = 2 * mn + 3 := by omega
          obtain ⟨e4, e5⟩ := HEn.out hb _ f s x hA (by first | omega | (simp only; omega))
          have hb9 : ((2 * mn + 3 : Nat) : Int) = 2 * (mn : Int) + 3 := by omega
          obtain ⟨lz, hlz⟩ : ∃ z, z = l2.set 1 0 := ⟨_, rfl⟩
          have hls : Hid (lz.length = nn) := hid (by rw [hlz, List.length_set]; exact hlen3.out)
          have hz2 : wAt lz ((2 : Nat) : Int) = wAt l2 2 := by rw [hlz, show (1 : Nat) = (1 : Int).toNat from rfl, wAt_set (by rw [hlen3.out]; omega), if_neg (by omega)]; rfl
          rw [← hlz] at e4
          have HAll := hid (fun (W : World) (H : HAt W h ab db s) => HAt.allN (n := nn) H e4 hls.out)
          have hcc := hid hA.cfg
          have hE := hD.set 1 (by rw [hlen3.out]; omega) 0 (by omega)
          rw [← hlz] at hE
          have hE2 := RdS.ofN hE cap hls.out
          have d1 := hD.at 1 (by rw [hlen3.out]; omega)
          have fD := hD.dat.free
          obtain ⟨z, hz⟩ : ∃ z, z = wAt l2 2 := ⟨_, rfl⟩
          rw [← hz] at hz2 e5
          replace hz2 : wAt lz ((2 : Nat) : Int) = z := hz2
          clear hz
          have hXs := hX.other (p := ⟨g, 1, none⟩) (Ne.symm dg) (.int .u64 0)
          have HHs := HH.other (p := ⟨g, 1, none⟩) (by simp at n_g; show ¬ h = g; omega) nag (by simp at n_g; show ¬ db = g; omega) (.int .u64 0)
          have hFFs := hFF.setNew (p := ⟨g, 1, none⟩) gB (.int .u64 0)
          have kX := hX.cell
          have kH := HH.cellsC hcc.out
          have nXg : ¬ X = g := fun e => dg e.symm
          have nhg : ¬ h = g := by simp at n_g; omega
          have nhg2 : ¬ g = h := by omega
          clear HH hX hFF hB hD hE hA e4 hlz hln
          replace hz2 := hid hz2
          rcases e5 with ⟨rfl, rfl, e6, e7⟩ | ⟨e8, rfl, e6⟩
          · obtain ⟨line, j, c, m, a, p, found, tail, cyc⟩ := x
            simp only at e6 e7 hXs kX
            subst e6
            subst e7
            replace hz2 := hz2.out
            have hE9 := hid hz2
            clear hz2
            have hz2 := hE9.out
            replace hE9 := hid hz2
            clear hz2
            go_wp2_with (first | (go_at_call 56; refine (HAll.out _ HHs).mono ?_; rintro e w10 ⟨⟨gn, capn, extn, rfl, hDn, q1⟩, hF2⟩; (replace hXs := hXs.kept hF2 List.not_mem_nil); (replace kX := hXs.cell); (have hN := RdS.ofN hDn capn hls.out); (replace hE2 := hE2.kept0 hF2); (replace hFFs := hFFs.trans hF2); clear hDn q1))
            go_loopw [17] (fun i wr => ∃ (k : Nat), k ≤ nn ∧ i = .int .i64 k ∧ RdS wr (.slice (some ⟨gn, 0, none⟩) nn capn) nn (u64s lz) ∧ RdS wr (.slice (some ⟨g, 0, none⟩) nn cap) nn (u64s lz) ∧ Blk wr X 86 [.int .i64 20, .int .i64 j, .int .i64 0, .int .i64 m, .int .u64 a, .int .u64 p, .bool found, .int .i64 tail, .int .i64 cyc] ∧ Fr [] w wr) (fun i _ => nn - (intOf i).toNat)
            case atStart => exact ⟨0, by omega, rfl, hN, hE2, hXs, hFFs⟩
            case round =>
              clear hN hE2 hXs hFFs kX
              obtain ⟨k, hk, rfl, hN, hE2, hX, hFF⟩ := hrel
              by_cases hlt : k < nn
              · have d1 := hE2.at k (by rw [hls.out]; exact hlt)
                have d2 := hN.at k (by rw [hls.out]; exact hlt)
                simp only [Nat.zero_add] at d1 d2
                obtain ⟨y, hy⟩ : ∃ y, y = wAt lz k := ⟨_, rfl⟩
                rw [← hy] at d1 d2
                clear hy
                have hne : (y != y) = false := by simp
                go_wp2
                go_quiet (fail)
                go_wp2
                go_roundw
                case rel => exact ⟨k + 1, by omega, by go_num, hN.kept0 ((Fr.refl _ _).drewN _), hE2.kept0 ((Fr.refl _ _).drewN _), hX.drewN _, hFF.drewN _⟩
                case measure => simp [intOf]; omega
              · obtain rfl : k = nn := by omega
                have kX := hX.cell
                have d2 := hE2.at 2 (by rw [hls.out]; omega)
                simp only [Nat.zero_add] at d2
                rw [hE9.out] at d2
                go_wp2_with fail
                go_ret
                exact ⟨rfl, hFF⟩
          · have hzb : (z == 0) = false := beq_eq_false_iff_ne.2 e8
            obtain ⟨line, j, c, m, a, p, found, tail, cyc⟩ := x
            simp only at e6 hXs kX
            subst e6
            have hE9 := hz2
            clear hz2 e8
            go_wp2_with (first | (go_at_call 56; refine (HAll.out _ HHs).mono ?_; rintro e w10 ⟨⟨gn, capn, extn, rfl, hDn, q1⟩, hF2⟩; (replace hXs := hXs.kept hF2 List.not_mem_nil); (replace kX := hXs.cell); (have hN := RdS.ofN hDn capn hls.out); (replace hE2 := hE2.kept0 hF2); (replace hFFs := hFFs.trans hF2); clear hDn q1))
            go_loopw [17] (fun i wr => ∃ (k : Nat), k ≤ nn ∧ i = .int .i64 k ∧ RdS wr (.slice (some ⟨gn, 0, none⟩) nn capn) nn (u64s lz) ∧ RdS wr (.slice (some ⟨g, 0, none⟩) nn cap) nn (u64s lz) ∧ Blk wr X 86 [.int .i64 3, .int .i64 j, .int .i64 c, .int .i64 m, .int .u64 a, .int .u64 p, .bool found, .int .i64 tail, .int .i64 cyc] ∧ Fr [] w wr) (fun i _ => nn - (intOf i).toNat)
            case atStart => exact ⟨0, by omega, rfl, hN, hE2, hXs, hFFs⟩
            case round =>
              clear hN hE2 hXs hFFs kX
              obtain ⟨k, hk, rfl, hN, hE2, hX, hFF⟩ := hrel
              by_cases hlt : k < nn
              · have d1 := hE2.at k (by rw [hls.out]; exact hlt)
                have d2 := hN.at k (by rw [hls.out]; exact hlt)
                simp only [Nat.zero_add] at d1 d2
                obtain ⟨y, hy⟩ : ∃ y, y = wAt lz k := ⟨_, rfl⟩
                rw [← hy] at d1 d2
                clear hy
                have hne : (y != y) = false := by simp
                go_wp2
                go_quiet (fail)
                go_wp2
                go_roundw
                case rel => exact ⟨k + 1, by omega, by go_num, hN.kept0 ((Fr.refl _ _).drewN _), hE2.kept0 ((Fr.refl _ _).drewN _), hX.drewN _, hFF.drewN _⟩
                case measure => simp [intOf]; omega
              · obtain rfl : k = nn := by omega
                have kX := hX.cell
                have d2 := hE2.at 2 (by rw [hls.out]; omega)
                simp only [Nat.zero_add] at d2
                rw [hE9.out] at d2
                go_wp2_with fail
                go_ret
                exact ⟨rfl, hFF⟩

end Go.Proofs.Yteggckdgjecfmaa
