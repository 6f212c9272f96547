/- mudlarklaw12.GateGrows: the walk. -/
import Derived.Test.YtolkgdchinaonaaGateGP
import Derived.Test.YtolkgdchinaonaaAwake12
import Derived.Test.YtolkgdchinaonaaRdAt
import Derived.Test.YtolkgdchinaonaaPlace
namespace Go.Proofs.Ytolkgdchinaonaa
open Go.RowKit
set_option linter.unusedVariables false
set_option linter.unusedSimpArgs false

set_option maxRecDepth 100000 in
set_option maxHeartbeats 8000000 in
theorem gateGrows_any (fr wt : Int) (w : World) (h0 : 0 ≤ fr ∧ fr < 18446744073709551616) (h1 : 0 ≤ wt ∧ wt ≤ 255) :
    Calls Try.prog 7 #[.int .u64 fr, .int .u8 wt] w fun e w' => e = .returned (.bool true) ∧ Fr [] w w' := by
  obtain ⟨h00, h01⟩ := h0
  obtain ⟨h10, h11⟩ := h1
  obtain ⟨st, hst⟩ : ∃ z, z = fr % 1152921504606846976 * 4 := ⟨_, rfl⟩
  have hsb : 0 ≤ st ∧ st < 4611686018427387904 := by omega
  have hs4 : st % 4 = 0 := by omega
  have hsw : IntKind.u64.wrap (fr % 1152921504606846976 * 4) = st := by rw [hst]; show (fr % 1152921504606846976 * 4) % 18446744073709551616 = _; omega
  clear hst
  obtain ⟨N, hN⟩ : ∃ z : Nat, wt % 100 = z := ⟨(wt % 100).toNat, by omega⟩
  have hNb : N < 100 := by omega
  have HI := fun W => in_any cfgG_right 0 W
  rw [show cfgG.inP 0 = 5 by decide] at HI
  replace HI := hid HI
  have HS5 := hid (fun (W : World) (h ab db : Nat) (H : HAt W h ab db sG0) => hstore_any H 5 st (by omega))
  have hg0 : GW (sG0.doIt (aStore 5 st)) st 0 := GW.stIn (v := 0) ⟨rfl, rfl, by decide, by decide⟩ st
  have hg1 : GW ((sG0.doIt (aStore 5 st)).doIt (aStore 1 1)) st 1 := hg0.stGate 1
  obtain ⟨s1, hs1⟩ : ∃ z, z = sG0.doIt (aStore 5 st) := ⟨_, rfl⟩
  rw [← hs1] at HS5 hg0 hg1
  clear hs1
  have HSg := hid (fun (W : World) (h ab db : Nat) (H : HAt W h ab db s1) => hstore_any H 1 1 (by omega))
  obtain ⟨s2, hs2⟩ : ∃ z, z = s1.doIt (aStore 1 1) := ⟨_, rfl⟩
  rw [← hs2] at HSg hg1
  clear hs2
  by_cases hN0 : N = 0
  · have hNi : (N : Int) ≤ 0 := by omega
    have hgw : GW s1 st (if N = 0 then 0 else 1) := by rw [if_pos hN0]; exact hg0
    replace hgw := hid hgw
    have hNb0 : ((N : Int) == 0) = true := by simp; omega
    clear hg0 hg1 hN0
    go_enter Try.func7, Try.ntmps7
    go_wp2_with fail
    go_at_call 37
    refine (awake12_any _).mono ?_
    rintro e w2 ⟨rfl, hFF⟩
    go_wp2_with fail
    go_at_call 38
    refine (newG_any _).mono ?_
    rintro e w3 ⟨⟨h, ab, db, rfl, HH, q1, q2, q3⟩, hF2⟩
    (have sF := hFF.size)
    (have zz1 := Nat.le_trans sF q1)
    (have zz2 := Nat.le_trans sF q2)
    (have zz3 := Nat.le_trans sF q3)
    (have hSS := fun i (m : i ∈ [h, db]) (l : i < w.heap.size) => (show i ∈ ([] : List Nat) by simp at m; omega))
    (replace hFF := hFF.trans hF2)
    (have kH := HH.cellsC (c := cfg1) rfl)
    clear q1 q2 q3 sF
    go_wp2_with fail
    go_at_call 45
    refine (HI.out _).mono ?_
    rintro e w4 ⟨rfl, hF2⟩
    (replace HH := HH.kept0 hF2)
    (replace hFF := hFF.trans hF2)
    go_wp2_with fail
    go_at_call 39
    refine (HS5.out _ _ _ _ HH).mono ?_
    rintro e w5 ⟨rfl, HH1, hF2⟩
    (replace hFF := hFF.trans_new hF2 hSS)
    clear HH
    go_wp2_with fail
    go_at_call 40
    refine (gbegin_any 11 0 0 0 _).mono ?_
    rintro e w7 ⟨rfl, hF2⟩
    (have HH2 := HH1.kept0 hF2)
    (replace hFF := hFF.trans hF2)
    clear HH1
    go_wp2_with fail
    have l1 := HH2.blk.lt
    have l2 := HH2.ar.dat.lt
    have l3 := HH2.ar.hdr.lt
    have sF := hFF.size
    obtain ⟨X, hXe⟩ : ∃ X, X = w7.heap.size := ⟨_, rfl⟩
    have hX := Blk.new w7 [.int .i64 1, .int .i64 11, .int .i64 0, .int .i64 0, .int .i64 0, .int .u64 0, .int .u64 0, .int .u64 0, .int .u64 0, .int .u64 0, .int .u64 0, .int .i64 0, .int .i64 0] 54
    replace hFF := hFF.alloc (.cells #[.int .i64 1, .int .i64 11, .int .i64 0, .int .i64 0, .int .i64 0, .int .u64 0, .int .u64 0, .int .u64 0, .int .u64 0, .int .u64 0, .int .u64 0, .int .i64 0, .int .i64 0] 54)
    replace HH2 := HH2.alloc (.cells #[.int .i64 1, .int .i64 11, .int .i64 0, .int .i64 0, .int .i64 0, .int .u64 0, .int .u64 0, .int .u64 0, .int .u64 0, .int .u64 0, .int .u64 0, .int .i64 0, .int .i64 0] 54)
    rw [← hXe] at hX ⊢
    have nh1 : h ≠ X := by omega
    have nh2 : ab ≠ X := by omega
    have nh3 : db ≠ X := by omega
    have nX : X ∉ [h, db] := by simp; omega
    have t0 : w.heap.size ≤ X := by omega
    clear hXe l1 l2 l3 sF kH HS5 HSg zz1 zz2 zz3
    go_loopw [8, 10, 11] (fun nn la i wr => ∃ (k : Nat) (n v line : Int) (s : HS), i = .int .i64 k ∧ nn = .int .i64 n ∧ la = .int .u64 v ∧ GgAt st N k n v line s ∧ HAt wr h ab db s ∧ Blk wr X 54 [.int .i64 line, .int .i64 11, .int .i64 0, .int .i64 0, .int .i64 0, .int .u64 0, .int .u64 0, .int .u64 0, .int .u64 0, .int .u64 0, .int .u64 0, .int .i64 0, .int .i64 0] ∧ Fr [] w wr) (fun _ _ i _ => N + 5 - (intOf i).toNat)
    case atStart => exact ⟨0, N, st, 1, _, rfl, rfl, rfl, .a rfl rfl rfl rfl hgw.out, HH2, hX, hFF⟩
    case round =>
      clear HH2 hX hFF hgw
      obtain ⟨k, n, v, line, s, rfl, rfl, rfl, hA, HH, hX, hFF⟩ := hrel
      obtain ⟨f1, f2, f3, f4, f5, f6, f7, f8, f9, f10⟩ := hA.facts hsb
      by_cases h24 : line = 24
      · subst h24
        have hE4 : v % 4 = 2 := by rcases f9 rfl with h | h <;> omega
        have HSy := fun W => gsays_any v W (by omega) (by omega)
        rw [hE4] at HSy
        have HX := fun (W : World) (H : HAt W h ab db s) => gate_any H 0 (gX 90)
        have hgw : GW s v (wAt s.ws 1) := by
          have hl := HH.len
          rw [f7] at hl
          exact ⟨f7, by have e : cfg1.words = 13 := by decide
                        omega, f6, rfl⟩
        have hgx : (gateM s 0 (gX 90)).x = gX 0 := rfl
        have hgi : (gateM s 0 (gX 90)).is = true := rfl
        have hgs : (gateM s 0 (gX 90)).s = s.doIt (aAdd 5 2) := by
          show s.doIt (aAdd (s.c.inP 0) 2) = _
          rw [inP1 f7]
        have hg2 := hgw.add 2 (by omega) (by omega)
        rw [hgx, hgi, hgs] at HX
        obtain ⟨s3, hs3⟩ : ∃ z, z = s.doIt (aAdd 5 2) := ⟨_, rfl⟩
        rw [← hs3] at HX hg2
        clear hs3 hgx hgi hgs hgw
        simp only [gX, MutV.val] at HX
        have HLd := fun (W : World) (A : AAt W ab db s3.ws) => aload A 5
        rw [hg2.inn] at HLd
        have hcc2 : Hid (s3.c = (⟨2, 1, 1, 0⟩ : Cfg)) := hid hg2.c
        obtain ⟨E, hE⟩ : ∃ z, z = v + 2 := ⟨_, rfl⟩
        rw [← hE] at HLd
        have hEq : E = st + 4 := by rcases f9 rfl with h | h <;> omega
        have HSe := fun W => gsays_any E W (by omega) (by omega)
        rw [show E % 4 = 0 by omega] at HSe
        have hw9 : IntKind.u64.wrap (st + 4) = st + 4 := by show (st + 4) % 18446744073709551616 = _; omega
        have hEb : (E == st + 4) = true := by rw [hEq]; simp
        replace HX := hid HX
        replace HLd := hid HLd
        replace HSy := hid HSy
        replace HSe := hid HSe
        clear hg2 hE hEq hE4 f1 f2 f3 f4 f5 f6 f7 f8 f9 f10 hA
        have kX := hX.cell
        have fX := hX.free
        have lX := hX.lt
        go_wp2_with fail
        go_at_call 43
        refine (HSy.out _).mono ?_
        rintro e w7 ⟨rfl, rfl⟩
        go_wp2_with fail
        have HH9 := HH.other (p := ⟨X, 0, none⟩) nh1 nh2 nh3 (.int .i64 90)
        have hFF9 := hFF.setNew (p := ⟨X, 0, none⟩) t0 (.int .i64 90)
        go_at_call 41
        refine (HX.out _ HH9).mono ?_
        rintro e w8 ⟨rfl, HH2, hF2⟩
        replace hFF9 := hFF9.trans_new hF2 hSS
        have hY1 := Blk.new w8 [.int .i64 0, .int .i64 11, .int .i64 0, .int .i64 0, .int .i64 0, .int .u64 0, .int .u64 0, .int .u64 0, .int .u64 0, .int .u64 0, .int .u64 0, .int .i64 0, .int .i64 0] 54
        have kY1 := hY1.cell
        have kH := (HH2.alloc (.cells #[.int .i64 0, .int .i64 11, .int .i64 0, .int .i64 0, .int .i64 0, .int .u64 0, .int .u64 0, .int .u64 0, .int .u64 0, .int .u64 0, .int .u64 0, .int .i64 0, .int .i64 0] 54)).cellsC hcc2.out
        go_wp2_with fail
        replace HH2 := (HH2.alloc (.cells #[.int .i64 0, .int .i64 11, .int .i64 0, .int .i64 0, .int .i64 0, .int .u64 0, .int .u64 0, .int .u64 0, .int .u64 0, .int .u64 0, .int .u64 0, .int .i64 0, .int .i64 0] 54)).drew
        replace hY1 := hY1.drew
        replace hFF9 := (hFF9.alloc (.cells #[.int .i64 0, .int .i64 11, .int .i64 0, .int .i64 0, .int .i64 0, .int .u64 0, .int .u64 0, .int .u64 0, .int .u64 0, .int .u64 0, .int .u64 0, .int .i64 0, .int .i64 0] 54)).drew
        clear kY1
        have kY := hY1.cell
        replace kH := HH2.cellsC hcc2.out
        go_region_held3 (fun W => W.cell? ⟨h, 0, none⟩ = some (.pointer (some ⟨ab, 0, none⟩)) ∧ W.cell? ⟨h, 1, none⟩ = some (.int .i64 2) ∧ W.cell? ⟨h, 2, none⟩ = some (.int .i64 1) ∧ W.cell? ⟨h, 3, none⟩ = some (.int .i64 1) ∧ W.cell? ⟨h, 4, none⟩ = some (.int .i64 0)) (go_keep)
          (first | (go_at_call 45; refine (HI.out _).mono ?_; rintro e w9 ⟨rfl, hF2⟩; (replace HH2 := HH2.kept0 hF2); (replace hY1 := hY1.kept hF2 List.not_mem_nil); (replace kY := hY1.cell); (replace kH := HH2.cellsC hcc2.out); (replace hFF9 := hFF9.trans hF2)) | (go_at_call 44; refine (HLd.out _ HH2.ar).mono ?_; rintro e w10 ⟨rfl, rfl⟩))
        go_wp2_with (first | (go_at_call 43; refine (HSe.out _).mono ?_; rintro e w11 ⟨rfl, rfl⟩))
        go_ret
        exact ⟨rfl, hFF9⟩

      · have k300 : (k : Int) ≤ 300 := by have := f10 h24; omega
        by_cases h5 : line = 5
        · subst h5
          obtain ⟨L1, L2⟩ := hA.look
          by_cases hn1 : n ≤ 1
          · obtain ⟨rfl, l2, hx, his, hA2⟩ := L1 hn1
            have HSt := hid (fun (W : World) (H : HAt W h ab db s) => hstore_any H 1 0 (by omega))
            obtain ⟨s9, hs9⟩ : ∃ z, z = s.doIt (aStore 1 0) := ⟨_, rfl⟩
            rw [← hs9] at HSt hx his hA2
            clear hs9 L1 L2 f1 f6 f7 f8 f9 f10 hA hn1 h24
            have HX := fun (W : World) (H : HAt W h ab db s9) => gate_any H 0 (gX 5)
            have hcc2 : Hid (_ = (⟨2, 1, 1, 0⟩ : Cfg)) := hid (hA2.facts hsb).2.2.2.2.2.2.1
            have hv2 := (hA2.facts hsb).2.2.2.2.2.1
            obtain ⟨g1, g2, g3, g4, g5, gr⟩ := hA2.facts hsb
            clear gr
            rw [hx, his] at HX
            obtain ⟨s3, hs3⟩ : ∃ z, z = (gateM s9 0 (gX 5)).s := ⟨_, rfl⟩
            rw [← hs3] at HX hA2 hcc2 hv2
            clear hs3 hx his
            simp only [gX, MutV.val] at HX
            replace HX := hid HX
            replace hA2 := hid hA2
            clear f2 f3 g2 g3
            have HLd := fun (W : World) (A : AAt W ab db s3.ws) => aload A 5
            rw [hv2] at HLd
            replace HLd := hid HLd
            clear hv2
            have kX := hX.cell
            have fX := hX.free
            have lX := hX.lt
            go_wp2_with fail
            go_at_call 39
            refine (HSt.out _ HH).mono ?_
            rintro e w7 ⟨rfl, HHs, hF2⟩
            clear HH
            (have HH := HHs)
            (replace hX := hX.kept hF2 nX)
            (replace hFF := hFF.trans_new hF2 hSS)
            (replace kX := hX.cell)
            (replace fX := hX.free)
            go_wp2_with fail
            go_at_call 41
            refine (HX.out _ HH).mono ?_
            rintro e w8 ⟨rfl, HH2, hF2⟩
            (replace hX := hX.kept hF2 nX)
            (have lX8 := hX.lt)
            (replace hFF := hFF.trans_new hF2 hSS)
            (replace kX := hX.cell)
            (replace fX := hX.free)
            (have hX1 := hX.alloc (.cells #[.int .i64 l2, .int .i64 11, .int .i64 0, .int .i64 0, .int .i64 0, .int .u64 0, .int .u64 0, .int .u64 0, .int .u64 0, .int .u64 0, .int .u64 0, .int .i64 0, .int .i64 0] 54))
            (have kX1 := hX1.cell)
            (have fX1 := hX1.free)
            (have hY1 := Blk.new w8 [.int .i64 l2, .int .i64 11, .int .i64 0, .int .i64 0, .int .i64 0, .int .u64 0, .int .u64 0, .int .u64 0, .int .u64 0, .int .u64 0, .int .u64 0, .int .i64 0, .int .i64 0] 54)
            (have kY1 := hY1.cell)
            (have dx1 : ¬ X = w8.heap.size := by omega)
            (have dx2 : ¬ w8.heap.size = X := by omega)
            (have kH := (HH2.alloc (.cells #[.int .i64 l2, .int .i64 11, .int .i64 0, .int .i64 0, .int .i64 0, .int .u64 0, .int .u64 0, .int .u64 0, .int .u64 0, .int .u64 0, .int .u64 0, .int .i64 0, .int .i64 0] 54)).cellsC hcc2.out)
            go_wp2_with fail
            replace HH2 := (HH2.alloc (.cells #[.int .i64 l2, .int .i64 11, .int .i64 0, .int .i64 0, .int .i64 0, .int .u64 0, .int .u64 0, .int .u64 0, .int .u64 0, .int .u64 0, .int .u64 0, .int .i64 0, .int .i64 0] 54)).drew
            replace hX := hX1.drew
            replace hY1 := hY1.drew
            replace hFF := (hFF.alloc (.cells #[.int .i64 l2, .int .i64 11, .int .i64 0, .int .i64 0, .int .i64 0, .int .u64 0, .int .u64 0, .int .u64 0, .int .u64 0, .int .u64 0, .int .u64 0, .int .i64 0, .int .i64 0] 54)).drew
            replace kX := hX.cell
            replace fX := hX.free
            have kY := hY1.cell
            replace kH := HH2.cellsC hcc2.out
            clear hX1 kX1 fX1 kY1
            go_region_held3 (fun W => W.cell? ⟨h, 0, none⟩ = some (.pointer (some ⟨ab, 0, none⟩)) ∧ W.cell? ⟨h, 1, none⟩ = some (.int .i64 2) ∧ W.cell? ⟨h, 2, none⟩ = some (.int .i64 1) ∧ W.cell? ⟨h, 3, none⟩ = some (.int .i64 1) ∧ W.cell? ⟨h, 4, none⟩ = some (.int .i64 0)) (go_keep)
              (first | (go_at_call 45; refine (HI.out _).mono ?_; rintro e w9 ⟨rfl, hF2⟩; (replace HH2 := HH2.kept0 hF2); (replace hX := hX.kept hF2 List.not_mem_nil); (replace hY1 := hY1.kept hF2 List.not_mem_nil); (replace kX := hX.cell); (replace fX := hX.free); (replace kY := hY1.cell); (replace kH := HH2.cellsC hcc2.out); (replace hFF := hFF.trans hF2)) | (go_at_call 44; refine (HLd.out _ HH2.ar).mono ?_; rintro e w10 ⟨rfl, rfl⟩))
            go_wp2_with fail
            replace hX := hX.setM (.int .i64 l2) (.int .i64 11) (.int .i64 0) (.int .i64 0) (.int .i64 0) (.int .u64 0) (.int .u64 0) (.int .u64 0) (.int .u64 0) (.int .u64 0) (.int .u64 0) (.int .i64 0) (.int .i64 0)
            go_roundw
            case rel =>
              refine ⟨k + 1, _, v, l2, s3, by go_num, rfl, rfl, hA2.out, ?_, hX, ?_⟩
              · repeat (first | with_reducible exact HH2 | with_reducible refine HAt.other ?_ nh1 nh2 nh3 _)
              · repeat (first | with_reducible exact hFF | with_reducible refine Fr.setNew ?_ t0 _)
            case measure => simp [intOf]; omega
          · have hn2 : 1 < n := by omega
            have hn3 : 0 < n - 1 := by omega
            obtain ⟨l2, hx, his, hA2⟩ := L2 hn2
            clear L1 L2 f1 f6 f7 f8 f9 f10 hA hn1 h24
            have HX := fun (W : World) (H : HAt W h ab db s) => gate_any H 0 (gX 5)
            have hcc2 : Hid (_ = (⟨2, 1, 1, 0⟩ : Cfg)) := hid (hA2.facts hsb).2.2.2.2.2.2.1
            have hv2 := (hA2.facts hsb).2.2.2.2.2.1
            obtain ⟨g1, g2, g3, g4, g5, gr⟩ := hA2.facts hsb
            clear gr
            rw [hx, his] at HX
            obtain ⟨s3, hs3⟩ : ∃ z, z = (gateM s 0 (gX 5)).s := ⟨_, rfl⟩
            rw [← hs3] at HX hA2 hcc2 hv2
            clear hs3 hx his
            simp only [gX, MutV.val] at HX
            replace HX := hid HX
            replace hA2 := hid hA2
            have hnw : IntKind.i64.wrap (n - 1) = n - 1 := w64 _ (by omega)
            clear f2 f3 g2 g3 hn2
            have HLd := fun (W : World) (A : AAt W ab db s3.ws) => aload A 5
            rw [hv2] at HLd
            replace HLd := hid HLd
            clear hv2
            have kX := hX.cell
            have fX := hX.free
            have lX := hX.lt
            go_wp2_with fail
            go_at_call 41
            refine (HX.out _ HH).mono ?_
            rintro e w8 ⟨rfl, HH2, hF2⟩
            (replace hX := hX.kept hF2 nX)
            (have lX8 := hX.lt)
            (replace hFF := hFF.trans_new hF2 hSS)
            (replace kX := hX.cell)
            (replace fX := hX.free)
            (have hX1 := hX.alloc (.cells #[.int .i64 l2, .int .i64 11, .int .i64 0, .int .i64 0, .int .i64 0, .int .u64 0, .int .u64 0, .int .u64 0, .int .u64 0, .int .u64 0, .int .u64 0, .int .i64 0, .int .i64 0] 54))
            (have kX1 := hX1.cell)
            (have fX1 := hX1.free)
            (have hY1 := Blk.new w8 [.int .i64 l2, .int .i64 11, .int .i64 0, .int .i64 0, .int .i64 0, .int .u64 0, .int .u64 0, .int .u64 0, .int .u64 0, .int .u64 0, .int .u64 0, .int .i64 0, .int .i64 0] 54)
            (have kY1 := hY1.cell)
            (have dx1 : ¬ X = w8.heap.size := by omega)
            (have dx2 : ¬ w8.heap.size = X := by omega)
            (have kH := (HH2.alloc (.cells #[.int .i64 l2, .int .i64 11, .int .i64 0, .int .i64 0, .int .i64 0, .int .u64 0, .int .u64 0, .int .u64 0, .int .u64 0, .int .u64 0, .int .u64 0, .int .i64 0, .int .i64 0] 54)).cellsC hcc2.out)
            go_wp2_with fail
            replace HH2 := (HH2.alloc (.cells #[.int .i64 l2, .int .i64 11, .int .i64 0, .int .i64 0, .int .i64 0, .int .u64 0, .int .u64 0, .int .u64 0, .int .u64 0, .int .u64 0, .int .u64 0, .int .i64 0, .int .i64 0] 54)).drew
            replace hX := hX1.drew
            replace hY1 := hY1.drew
            replace hFF := (hFF.alloc (.cells #[.int .i64 l2, .int .i64 11, .int .i64 0, .int .i64 0, .int .i64 0, .int .u64 0, .int .u64 0, .int .u64 0, .int .u64 0, .int .u64 0, .int .u64 0, .int .i64 0, .int .i64 0] 54)).drew
            replace kX := hX.cell
            replace fX := hX.free
            have kY := hY1.cell
            replace kH := HH2.cellsC hcc2.out
            clear hX1 kX1 fX1 kY1
            go_region_held3 (fun W => W.cell? ⟨h, 0, none⟩ = some (.pointer (some ⟨ab, 0, none⟩)) ∧ W.cell? ⟨h, 1, none⟩ = some (.int .i64 2) ∧ W.cell? ⟨h, 2, none⟩ = some (.int .i64 1) ∧ W.cell? ⟨h, 3, none⟩ = some (.int .i64 1) ∧ W.cell? ⟨h, 4, none⟩ = some (.int .i64 0)) (go_keep)
              (first | (go_at_call 45; refine (HI.out _).mono ?_; rintro e w9 ⟨rfl, hF2⟩; (replace HH2 := HH2.kept0 hF2); (replace hX := hX.kept hF2 List.not_mem_nil); (replace hY1 := hY1.kept hF2 List.not_mem_nil); (replace kX := hX.cell); (replace fX := hX.free); (replace kY := hY1.cell); (replace kH := HH2.cellsC hcc2.out); (replace hFF := hFF.trans hF2)) | (go_at_call 44; refine (HLd.out _ HH2.ar).mono ?_; rintro e w10 ⟨rfl, rfl⟩))
            go_wp2_with fail
            replace hX := hX.setM (.int .i64 l2) (.int .i64 11) (.int .i64 0) (.int .i64 0) (.int .i64 0) (.int .u64 0) (.int .u64 0) (.int .u64 0) (.int .u64 0) (.int .u64 0) (.int .u64 0) (.int .i64 0) (.int .i64 0)
            go_roundw
            case rel =>
              refine ⟨k + 1, _, v, l2, s3, by go_num, rfl, rfl, hA2.out, ?_, hX, ?_⟩
              · repeat (first | with_reducible exact HH2 | with_reducible refine HAt.other ?_ nh1 nh2 nh3 _)
              · repeat (first | with_reducible exact hFF | with_reducible refine Fr.setNew ?_ t0 _)
            case measure => simp [intOf]; omega
        · obtain ⟨his, v2, l2, hvv, hx, hA2⟩ := hA.step hsb h5 h24
          have b24 : (line != 24) = true := by simpa using h24
          have b5 : (line == 5) = false := by simpa using h5
          clear f1 f6 f7 f8 f9 f10 hA h24 h5
          have HX := fun (W : World) (H : HAt W h ab db s) => gate_any H 0 (gX line)
          have hcc2 : Hid (_ = (⟨2, 1, 1, 0⟩ : Cfg)) := hid (hA2.facts hsb).2.2.2.2.2.2.1
          have hv2 := (hA2.facts hsb).2.2.2.2.2.1
          obtain ⟨g1, g2, g3, g4, g5, gr⟩ := hA2.facts hsb
          clear gr
          rw [hx, his] at HX
          obtain ⟨s3, hs3⟩ : ∃ z, z = (gateM s 0 (gX line)).s := ⟨_, rfl⟩
          rw [← hs3] at HX hA2 hcc2 hv2
          clear hs3 hx his
          simp only [gX, MutV.val] at HX
          replace HX := hid HX
          replace hA2 := hid hA2
          have HLd := fun (W : World) (A : AAt W ab db s3.ws) => aload A 5
          rw [hv2] at HLd
          replace HLd := hid HLd
          clear hv2
          have kX := hX.cell
          have fX := hX.free
          have lX := hX.lt
          go_wp2_with fail
          go_at_call 41
          refine (HX.out _ HH).mono ?_
          rintro e w8 ⟨rfl, HH2, hF2⟩
          (replace hX := hX.kept hF2 nX)
          (have lX8 := hX.lt)
          (replace hFF := hFF.trans_new hF2 hSS)
          (replace kX := hX.cell)
          (replace fX := hX.free)
          (have hX1 := hX.alloc (.cells #[.int .i64 l2, .int .i64 11, .int .i64 0, .int .i64 0, .int .i64 0, .int .u64 0, .int .u64 0, .int .u64 0, .int .u64 0, .int .u64 0, .int .u64 0, .int .i64 0, .int .i64 0] 54))
          (have kX1 := hX1.cell)
          (have fX1 := hX1.free)
          (have hY1 := Blk.new w8 [.int .i64 l2, .int .i64 11, .int .i64 0, .int .i64 0, .int .i64 0, .int .u64 0, .int .u64 0, .int .u64 0, .int .u64 0, .int .u64 0, .int .u64 0, .int .i64 0, .int .i64 0] 54)
          (have kY1 := hY1.cell)
          (have dx1 : ¬ X = w8.heap.size := by omega)
          (have dx2 : ¬ w8.heap.size = X := by omega)
          (have kH := (HH2.alloc (.cells #[.int .i64 l2, .int .i64 11, .int .i64 0, .int .i64 0, .int .i64 0, .int .u64 0, .int .u64 0, .int .u64 0, .int .u64 0, .int .u64 0, .int .u64 0, .int .i64 0, .int .i64 0] 54)).cellsC hcc2.out)
          go_wp2_with fail
          replace HH2 := (HH2.alloc (.cells #[.int .i64 l2, .int .i64 11, .int .i64 0, .int .i64 0, .int .i64 0, .int .u64 0, .int .u64 0, .int .u64 0, .int .u64 0, .int .u64 0, .int .u64 0, .int .i64 0, .int .i64 0] 54)).drew
          replace hX := hX1.drew
          replace hY1 := hY1.drew
          replace hFF := (hFF.alloc (.cells #[.int .i64 l2, .int .i64 11, .int .i64 0, .int .i64 0, .int .i64 0, .int .u64 0, .int .u64 0, .int .u64 0, .int .u64 0, .int .u64 0, .int .u64 0, .int .i64 0, .int .i64 0] 54)).drew
          replace kX := hX.cell
          replace fX := hX.free
          have kY := hY1.cell
          replace kH := HH2.cellsC hcc2.out
          clear hX1 kX1 fX1 kY1
          go_region_held3 (fun W => W.cell? ⟨h, 0, none⟩ = some (.pointer (some ⟨ab, 0, none⟩)) ∧ W.cell? ⟨h, 1, none⟩ = some (.int .i64 2) ∧ W.cell? ⟨h, 2, none⟩ = some (.int .i64 1) ∧ W.cell? ⟨h, 3, none⟩ = some (.int .i64 1) ∧ W.cell? ⟨h, 4, none⟩ = some (.int .i64 0)) (go_keep)
            (first | (go_at_call 45; refine (HI.out _).mono ?_; rintro e w9 ⟨rfl, hF2⟩; (replace HH2 := HH2.kept0 hF2); (replace hX := hX.kept hF2 List.not_mem_nil); (replace hY1 := hY1.kept hF2 List.not_mem_nil); (replace kX := hX.cell); (replace fX := hX.free); (replace kY := hY1.cell); (replace kH := HH2.cellsC hcc2.out); (replace hFF := hFF.trans hF2)) | (go_at_call 44; refine (HLd.out _ HH2.ar).mono ?_; rintro e w10 ⟨rfl, rfl⟩))
          go_wp2_with fail
          replace hX := hX.setM (.int .i64 l2) (.int .i64 11) (.int .i64 0) (.int .i64 0) (.int .i64 0) (.int .u64 0) (.int .u64 0) (.int .u64 0) (.int .u64 0) (.int .u64 0) (.int .u64 0) (.int .i64 0) (.int .i64 0)
          go_roundw
          case rel =>
            refine ⟨k + 1, _, v2, l2, s3, by go_num, rfl, rfl, hA2.out, ?_, hX, ?_⟩
            · repeat (first | with_reducible exact HH2 | with_reducible refine HAt.other ?_ nh1 nh2 nh3 _)
            · repeat (first | with_reducible exact hFF | with_reducible refine Fr.setNew ?_ t0 _)
          case measure => simp [intOf]; omega

  · have hNp : (0 : Int) < (N : Int) := by omega
    have hgw : GW s2 st (if N = 0 then 0 else 1) := by rw [if_neg hN0]; exact hg1
    replace hgw := hid hgw
    have hNb0 : ((N : Int) == 0) = false := by simp; omega
    have hNb1 : ((N : Int) != 0) = true := bne_iff_ne.2 (by omega)
    clear hg0 hg1 hN0
    go_enter Try.func7, Try.ntmps7
    go_wp2_with fail
    go_at_call 37
    refine (awake12_any _).mono ?_
    rintro e w2 ⟨rfl, hFF⟩
    go_wp2_with fail
    go_at_call 38
    refine (newG_any _).mono ?_
    rintro e w3 ⟨⟨h, ab, db, rfl, HH, q1, q2, q3⟩, hF2⟩
    (have sF := hFF.size)
    (have zz1 := Nat.le_trans sF q1)
    (have zz2 := Nat.le_trans sF q2)
    (have zz3 := Nat.le_trans sF q3)
    (have hSS := fun i (m : i ∈ [h, db]) (l : i < w.heap.size) => (show i ∈ ([] : List Nat) by simp at m; omega))
    (replace hFF := hFF.trans hF2)
    (have kH := HH.cellsC (c := cfg1) rfl)
    clear q1 q2 q3 sF
    go_wp2_with fail
    go_at_call 45
    refine (HI.out _).mono ?_
    rintro e w4 ⟨rfl, hF2⟩
    (replace HH := HH.kept0 hF2)
    (replace hFF := hFF.trans hF2)
    go_wp2_with fail
    go_at_call 39
    refine (HS5.out _ _ _ _ HH).mono ?_
    rintro e w5 ⟨rfl, HH1, hF2⟩
    (replace hFF := hFF.trans_new hF2 hSS)
    clear HH
    go_wp2_with fail
    go_at_call 39
    refine (HSg.out _ _ _ _ HH1).mono ?_
    rintro e w6 ⟨rfl, HH1g, hF2⟩
    (replace hFF := hFF.trans_new hF2 hSS)
    clear HH1
    go_wp2_with fail
    go_at_call 40
    refine (gbegin_any 11 0 0 0 _).mono ?_
    rintro e w7 ⟨rfl, hF2⟩
    (have HH2 := HH1g.kept0 hF2)
    (replace hFF := hFF.trans hF2)
    clear HH1g
    go_wp2_with fail
    have l1 := HH2.blk.lt
    have l2 := HH2.ar.dat.lt
    have l3 := HH2.ar.hdr.lt
    have sF := hFF.size
    obtain ⟨X, hXe⟩ : ∃ X, X = w7.heap.size := ⟨_, rfl⟩
    have hX := Blk.new w7 [.int .i64 1, .int .i64 11, .int .i64 0, .int .i64 0, .int .i64 0, .int .u64 0, .int .u64 0, .int .u64 0, .int .u64 0, .int .u64 0, .int .u64 0, .int .i64 0, .int .i64 0] 54
    replace hFF := hFF.alloc (.cells #[.int .i64 1, .int .i64 11, .int .i64 0, .int .i64 0, .int .i64 0, .int .u64 0, .int .u64 0, .int .u64 0, .int .u64 0, .int .u64 0, .int .u64 0, .int .i64 0, .int .i64 0] 54)
    replace HH2 := HH2.alloc (.cells #[.int .i64 1, .int .i64 11, .int .i64 0, .int .i64 0, .int .i64 0, .int .u64 0, .int .u64 0, .int .u64 0, .int .u64 0, .int .u64 0, .int .u64 0, .int .i64 0, .int .i64 0] 54)
    rw [← hXe] at hX ⊢
    have nh1 : h ≠ X := by omega
    have nh2 : ab ≠ X := by omega
    have nh3 : db ≠ X := by omega
    have nX : X ∉ [h, db] := by simp; omega
    have t0 : w.heap.size ≤ X := by omega
    clear hXe l1 l2 l3 sF kH HS5 HSg zz1 zz2 zz3
    go_loopw [8, 10, 11] (fun nn la i wr => ∃ (k : Nat) (n v line : Int) (s : HS), i = .int .i64 k ∧ nn = .int .i64 n ∧ la = .int .u64 v ∧ GgAt st N k n v line s ∧ HAt wr h ab db s ∧ Blk wr X 54 [.int .i64 line, .int .i64 11, .int .i64 0, .int .i64 0, .int .i64 0, .int .u64 0, .int .u64 0, .int .u64 0, .int .u64 0, .int .u64 0, .int .u64 0, .int .i64 0, .int .i64 0] ∧ Fr [] w wr) (fun _ _ i _ => N + 5 - (intOf i).toNat)
    case atStart => exact ⟨0, N, st, 1, _, rfl, rfl, rfl, .a rfl rfl rfl rfl hgw.out, HH2, hX, hFF⟩
    case round =>
      clear HH2 hX hFF hgw
      obtain ⟨k, n, v, line, s, rfl, rfl, rfl, hA, HH, hX, hFF⟩ := hrel
      obtain ⟨f1, f2, f3, f4, f5, f6, f7, f8, f9, f10⟩ := hA.facts hsb
      by_cases h24 : line = 24
      · subst h24
        have hE4 : v % 4 = 2 := by rcases f9 rfl with h | h <;> omega
        have HSy := fun W => gsays_any v W (by omega) (by omega)
        rw [hE4] at HSy
        have HX := fun (W : World) (H : HAt W h ab db s) => gate_any H 0 (gX 90)
        have hgw : GW s v (wAt s.ws 1) := by
          have hl := HH.len
          rw [f7] at hl
          exact ⟨f7, by have e : cfg1.words = 13 := by decide
                        omega, f6, rfl⟩
        have hgx : (gateM s 0 (gX 90)).x = gX 0 := rfl
        have hgi : (gateM s 0 (gX 90)).is = true := rfl
        have hgs : (gateM s 0 (gX 90)).s = s.doIt (aAdd 5 2) := by
          show s.doIt (aAdd (s.c.inP 0) 2) = _
          rw [inP1 f7]
        have hg2 := hgw.add 2 (by omega) (by omega)
        rw [hgx, hgi, hgs] at HX
        obtain ⟨s3, hs3⟩ : ∃ z, z = s.doIt (aAdd 5 2) := ⟨_, rfl⟩
        rw [← hs3] at HX hg2
        clear hs3 hgx hgi hgs hgw
        simp only [gX, MutV.val] at HX
        have HLd := fun (W : World) (A : AAt W ab db s3.ws) => aload A 5
        rw [hg2.inn] at HLd
        have hcc2 : Hid (s3.c = (⟨2, 1, 1, 0⟩ : Cfg)) := hid hg2.c
        obtain ⟨E, hE⟩ : ∃ z, z = v + 2 := ⟨_, rfl⟩
        rw [← hE] at HLd
        have hEq : E = st + 8 := by rcases f9 rfl with h | h <;> omega
        have HSe := fun W => gsays_any E W (by omega) (by omega)
        rw [show E % 4 = 0 by omega] at HSe
        have hw9 : IntKind.u64.wrap (st + 8) = st + 8 := by show (st + 8) % 18446744073709551616 = _; omega
        have hEb : (E == st + 8) = true := by rw [hEq]; simp
        replace HX := hid HX
        replace HLd := hid HLd
        replace HSy := hid HSy
        replace HSe := hid HSe
        clear hg2 hE hEq hE4 f1 f2 f3 f4 f5 f6 f7 f8 f9 f10 hA
        have kX := hX.cell
        have fX := hX.free
        have lX := hX.lt
        go_wp2_with fail
        go_at_call 43
        refine (HSy.out _).mono ?_
        rintro e w7 ⟨rfl, rfl⟩
        go_wp2_with fail
        have HH9 := HH.other (p := ⟨X, 0, none⟩) nh1 nh2 nh3 (.int .i64 90)
        have hFF9 := hFF.setNew (p := ⟨X, 0, none⟩) t0 (.int .i64 90)
        go_at_call 41
        refine (HX.out _ HH9).mono ?_
        rintro e w8 ⟨rfl, HH2, hF2⟩
        replace hFF9 := hFF9.trans_new hF2 hSS
        have hY1 := Blk.new w8 [.int .i64 0, .int .i64 11, .int .i64 0, .int .i64 0, .int .i64 0, .int .u64 0, .int .u64 0, .int .u64 0, .int .u64 0, .int .u64 0, .int .u64 0, .int .i64 0, .int .i64 0] 54
        have kY1 := hY1.cell
        have kH := (HH2.alloc (.cells #[.int .i64 0, .int .i64 11, .int .i64 0, .int .i64 0, .int .i64 0, .int .u64 0, .int .u64 0, .int .u64 0, .int .u64 0, .int .u64 0, .int .u64 0, .int .i64 0, .int .i64 0] 54)).cellsC hcc2.out
        go_wp2_with fail
        replace HH2 := (HH2.alloc (.cells #[.int .i64 0, .int .i64 11, .int .i64 0, .int .i64 0, .int .i64 0, .int .u64 0, .int .u64 0, .int .u64 0, .int .u64 0, .int .u64 0, .int .u64 0, .int .i64 0, .int .i64 0] 54)).drew
        replace hY1 := hY1.drew
        replace hFF9 := (hFF9.alloc (.cells #[.int .i64 0, .int .i64 11, .int .i64 0, .int .i64 0, .int .i64 0, .int .u64 0, .int .u64 0, .int .u64 0, .int .u64 0, .int .u64 0, .int .u64 0, .int .i64 0, .int .i64 0] 54)).drew
        clear kY1
        have kY := hY1.cell
        replace kH := HH2.cellsC hcc2.out
        go_region_held3 (fun W => W.cell? ⟨h, 0, none⟩ = some (.pointer (some ⟨ab, 0, none⟩)) ∧ W.cell? ⟨h, 1, none⟩ = some (.int .i64 2) ∧ W.cell? ⟨h, 2, none⟩ = some (.int .i64 1) ∧ W.cell? ⟨h, 3, none⟩ = some (.int .i64 1) ∧ W.cell? ⟨h, 4, none⟩ = some (.int .i64 0)) (go_keep)
          (first | (go_at_call 45; refine (HI.out _).mono ?_; rintro e w9 ⟨rfl, hF2⟩; (replace HH2 := HH2.kept0 hF2); (replace hY1 := hY1.kept hF2 List.not_mem_nil); (replace kY := hY1.cell); (replace kH := HH2.cellsC hcc2.out); (replace hFF9 := hFF9.trans hF2)) | (go_at_call 44; refine (HLd.out _ HH2.ar).mono ?_; rintro e w10 ⟨rfl, rfl⟩))
        go_wp2_with (first | (go_at_call 43; refine (HSe.out _).mono ?_; rintro e w11 ⟨rfl, rfl⟩))
        go_ret
        exact ⟨rfl, hFF9⟩

      · have k300 : (k : Int) ≤ 300 := by have := f10 h24; omega
        by_cases h5 : line = 5
        · subst h5
          obtain ⟨L1, L2⟩ := hA.look
          by_cases hn1 : n ≤ 1
          · obtain ⟨rfl, l2, hx, his, hA2⟩ := L1 hn1
            have HSt := hid (fun (W : World) (H : HAt W h ab db s) => hstore_any H 1 0 (by omega))
            obtain ⟨s9, hs9⟩ : ∃ z, z = s.doIt (aStore 1 0) := ⟨_, rfl⟩
            rw [← hs9] at HSt hx his hA2
            clear hs9 L1 L2 f1 f6 f7 f8 f9 f10 hA hn1 h24
            have HX := fun (W : World) (H : HAt W h ab db s9) => gate_any H 0 (gX 5)
            have hcc2 : Hid (_ = (⟨2, 1, 1, 0⟩ : Cfg)) := hid (hA2.facts hsb).2.2.2.2.2.2.1
            have hv2 := (hA2.facts hsb).2.2.2.2.2.1
            obtain ⟨g1, g2, g3, g4, g5, gr⟩ := hA2.facts hsb
            clear gr
            rw [hx, his] at HX
            obtain ⟨s3, hs3⟩ : ∃ z, z = (gateM s9 0 (gX 5)).s := ⟨_, rfl⟩
            rw [← hs3] at HX hA2 hcc2 hv2
            clear hs3 hx his
            simp only [gX, MutV.val] at HX
            replace HX := hid HX
            replace hA2 := hid hA2
            clear f2 f3 g2 g3
            have HLd := fun (W : World) (A : AAt W ab db s3.ws) => aload A 5
            rw [hv2] at HLd
            replace HLd := hid HLd
            clear hv2
            have kX := hX.cell
            have fX := hX.free
            have lX := hX.lt
            go_wp2_with fail
            go_at_call 39
            refine (HSt.out _ HH).mono ?_
            rintro e w7 ⟨rfl, HHs, hF2⟩
            clear HH
            (have HH := HHs)
            (replace hX := hX.kept hF2 nX)
            (replace hFF := hFF.trans_new hF2 hSS)
            (replace kX := hX.cell)
            (replace fX := hX.free)
            go_wp2_with fail
            go_at_call 41
            refine (HX.out _ HH).mono ?_
            rintro e w8 ⟨rfl, HH2, hF2⟩
            (replace hX := hX.kept hF2 nX)
            (have lX8 := hX.lt)
            (replace hFF := hFF.trans_new hF2 hSS)
            (replace kX := hX.cell)
            (replace fX := hX.free)
            (have hX1 := hX.alloc (.cells #[.int .i64 l2, .int .i64 11, .int .i64 0, .int .i64 0, .int .i64 0, .int .u64 0, .int .u64 0, .int .u64 0, .int .u64 0, .int .u64 0, .int .u64 0, .int .i64 0, .int .i64 0] 54))
            (have kX1 := hX1.cell)
            (have fX1 := hX1.free)
            (have hY1 := Blk.new w8 [.int .i64 l2, .int .i64 11, .int .i64 0, .int .i64 0, .int .i64 0, .int .u64 0, .int .u64 0, .int .u64 0, .int .u64 0, .int .u64 0, .int .u64 0, .int .i64 0, .int .i64 0] 54)
            (have kY1 := hY1.cell)
            (have dx1 : ¬ X = w8.heap.size := by omega)
            (have dx2 : ¬ w8.heap.size = X := by omega)
            (have kH := (HH2.alloc (.cells #[.int .i64 l2, .int .i64 11, .int .i64 0, .int .i64 0, .int .i64 0, .int .u64 0, .int .u64 0, .int .u64 0, .int .u64 0, .int .u64 0, .int .u64 0, .int .i64 0, .int .i64 0] 54)).cellsC hcc2.out)
            go_wp2_with fail
            replace HH2 := (HH2.alloc (.cells #[.int .i64 l2, .int .i64 11, .int .i64 0, .int .i64 0, .int .i64 0, .int .u64 0, .int .u64 0, .int .u64 0, .int .u64 0, .int .u64 0, .int .u64 0, .int .i64 0, .int .i64 0] 54)).drew
            replace hX := hX1.drew
            replace hY1 := hY1.drew
            replace hFF := (hFF.alloc (.cells #[.int .i64 l2, .int .i64 11, .int .i64 0, .int .i64 0, .int .i64 0, .int .u64 0, .int .u64 0, .int .u64 0, .int .u64 0, .int .u64 0, .int .u64 0, .int .i64 0, .int .i64 0] 54)).drew
            replace kX := hX.cell
            replace fX := hX.free
            have kY := hY1.cell
            replace kH := HH2.cellsC hcc2.out
            clear hX1 kX1 fX1 kY1
            go_region_held3 (fun W => W.cell? ⟨h, 0, none⟩ = some (.pointer (some ⟨ab, 0, none⟩)) ∧ W.cell? ⟨h, 1, none⟩ = some (.int .i64 2) ∧ W.cell? ⟨h, 2, none⟩ = some (.int .i64 1) ∧ W.cell? ⟨h, 3, none⟩ = some (.int .i64 1) ∧ W.cell? ⟨h, 4, none⟩ = some (.int .i64 0)) (go_keep)
              (first | (go_at_call 45; refine (HI.out _).mono ?_; rintro e w9 ⟨rfl, hF2⟩; (replace HH2 := HH2.kept0 hF2); (replace hX := hX.kept hF2 List.not_mem_nil); (replace hY1 := hY1.kept hF2 List.not_mem_nil); (replace kX := hX.cell); (replace fX := hX.free); (replace kY := hY1.cell); (replace kH := HH2.cellsC hcc2.out); (replace hFF := hFF.trans hF2)) | (go_at_call 44; refine (HLd.out _ HH2.ar).mono ?_; rintro e w10 ⟨rfl, rfl⟩))
            go_wp2_with fail
            replace hX := hX.setM (.int .i64 l2) (.int .i64 11) (.int .i64 0) (.int .i64 0) (.int .i64 0) (.int .u64 0) (.int .u64 0) (.int .u64 0) (.int .u64 0) (.int .u64 0) (.int .u64 0) (.int .i64 0) (.int .i64 0)
            go_roundw
            case rel =>
              refine ⟨k + 1, _, v, l2, s3, by go_num, rfl, rfl, hA2.out, ?_, hX, ?_⟩
              · repeat (first | with_reducible exact HH2 | with_reducible refine HAt.other ?_ nh1 nh2 nh3 _)
              · repeat (first | with_reducible exact hFF | with_reducible refine Fr.setNew ?_ t0 _)
            case measure => simp [intOf]; omega
          · have hn2 : 1 < n := by omega
            have hn3 : 0 < n - 1 := by omega
            obtain ⟨l2, hx, his, hA2⟩ := L2 hn2
            clear L1 L2 f1 f6 f7 f8 f9 f10 hA hn1 h24
            have HX := fun (W : World) (H : HAt W h ab db s) => gate_any H 0 (gX 5)
            have hcc2 : Hid (_ = (⟨2, 1, 1, 0⟩ : Cfg)) := hid (hA2.facts hsb).2.2.2.2.2.2.1
            have hv2 := (hA2.facts hsb).2.2.2.2.2.1
            obtain ⟨g1, g2, g3, g4, g5, gr⟩ := hA2.facts hsb
            clear gr
            rw [hx, his] at HX
            obtain ⟨s3, hs3⟩ : ∃ z, z = (gateM s 0 (gX 5)).s := ⟨_, rfl⟩
            rw [← hs3] at HX hA2 hcc2 hv2
            clear hs3 hx his
            simp only [gX, MutV.val] at HX
            replace HX := hid HX
            replace hA2 := hid hA2
            have hnw : IntKind.i64.wrap (n - 1) = n - 1 := w64 _ (by omega)
            clear f2 f3 g2 g3 hn2
            have HLd := fun (W : World) (A : AAt W ab db s3.ws) => aload A 5
            rw [hv2] at HLd
            replace HLd := hid HLd
            clear hv2
            have kX := hX.cell
            have fX := hX.free
            have lX := hX.lt
            go_wp2_with fail
            go_at_call 41
            refine (HX.out _ HH).mono ?_
            rintro e w8 ⟨rfl, HH2, hF2⟩
            (replace hX := hX.kept hF2 nX)
            (have lX8 := hX.lt)
            (replace hFF := hFF.trans_new hF2 hSS)
            (replace kX := hX.cell)
            (replace fX := hX.free)
            (have hX1 := hX.alloc (.cells #[.int .i64 l2, .int .i64 11, .int .i64 0, .int .i64 0, .int .i64 0, .int .u64 0, .int .u64 0, .int .u64 0, .int .u64 0, .int .u64 0, .int .u64 0, .int .i64 0, .int .i64 0] 54))
            (have kX1 := hX1.cell)
            (have fX1 := hX1.free)
            (have hY1 := Blk.new w8 [.int .i64 l2, .int .i64 11, .int .i64 0, .int .i64 0, .int .i64 0, .int .u64 0, .int .u64 0, .int .u64 0, .int .u64 0, .int .u64 0, .int .u64 0, .int .i64 0, .int .i64 0] 54)
            (have kY1 := hY1.cell)
            (have dx1 : ¬ X = w8.heap.size := by omega)
            (have dx2 : ¬ w8.heap.size = X := by omega)
            (have kH := (HH2.alloc (.cells #[.int .i64 l2, .int .i64 11, .int .i64 0, .int .i64 0, .int .i64 0, .int .u64 0, .int .u64 0, .int .u64 0, .int .u64 0, .int .u64 0, .int .u64 0, .int .i64 0, .int .i64 0] 54)).cellsC hcc2.out)
            go_wp2_with fail
            replace HH2 := (HH2.alloc (.cells #[.int .i64 l2, .int .i64 11, .int .i64 0, .int .i64 0, .int .i64 0, .int .u64 0, .int .u64 0, .int .u64 0, .int .u64 0, .int .u64 0, .int .u64 0, .int .i64 0, .int .i64 0] 54)).drew
            replace hX := hX1.drew
            replace hY1 := hY1.drew
            replace hFF := (hFF.alloc (.cells #[.int .i64 l2, .int .i64 11, .int .i64 0, .int .i64 0, .int .i64 0, .int .u64 0, .int .u64 0, .int .u64 0, .int .u64 0, .int .u64 0, .int .u64 0, .int .i64 0, .int .i64 0] 54)).drew
            replace kX := hX.cell
            replace fX := hX.free
            have kY := hY1.cell
            replace kH := HH2.cellsC hcc2.out
            clear hX1 kX1 fX1 kY1
            go_region_held3 (fun W => W.cell? ⟨h, 0, none⟩ = some (.pointer (some ⟨ab, 0, none⟩)) ∧ W.cell? ⟨h, 1, none⟩ = some (.int .i64 2) ∧ W.cell? ⟨h, 2, none⟩ = some (.int .i64 1) ∧ W.cell? ⟨h, 3, none⟩ = some (.int .i64 1) ∧ W.cell? ⟨h, 4, none⟩ = some (.int .i64 0)) (go_keep)
              (first | (go_at_call 45; refine (HI.out _).mono ?_; rintro e w9 ⟨rfl, hF2⟩; (replace HH2 := HH2.kept0 hF2); (replace hX := hX.kept hF2 List.not_mem_nil); (replace hY1 := hY1.kept hF2 List.not_mem_nil); (replace kX := hX.cell); (replace fX := hX.free); (replace kY := hY1.cell); (replace kH := HH2.cellsC hcc2.out); (replace hFF := hFF.trans hF2)) | (go_at_call 44; refine (HLd.out _ HH2.ar).mono ?_; rintro e w10 ⟨rfl, rfl⟩))
            go_wp2_with fail
            replace hX := hX.setM (.int .i64 l2) (.int .i64 11) (.int .i64 0) (.int .i64 0) (.int .i64 0) (.int .u64 0) (.int .u64 0) (.int .u64 0) (.int .u64 0) (.int .u64 0) (.int .u64 0) (.int .i64 0) (.int .i64 0)
            go_roundw
            case rel =>
              refine ⟨k + 1, _, v, l2, s3, by go_num, rfl, rfl, hA2.out, ?_, hX, ?_⟩
              · repeat (first | with_reducible exact HH2 | with_reducible refine HAt.other ?_ nh1 nh2 nh3 _)
              · repeat (first | with_reducible exact hFF | with_reducible refine Fr.setNew ?_ t0 _)
            case measure => simp [intOf]; omega
        · obtain ⟨his, v2, l2, hvv, hx, hA2⟩ := hA.step hsb h5 h24
          have b24 : (line != 24) = true := by simpa using h24
          have b5 : (line == 5) = false := by simpa using h5
          clear f1 f6 f7 f8 f9 f10 hA h24 h5
          have HX := fun (W : World) (H : HAt W h ab db s) => gate_any H 0 (gX line)
          have hcc2 : Hid (_ = (⟨2, 1, 1, 0⟩ : Cfg)) := hid (hA2.facts hsb).2.2.2.2.2.2.1
          have hv2 := (hA2.facts hsb).2.2.2.2.2.1
          obtain ⟨g1, g2, g3, g4, g5, gr⟩ := hA2.facts hsb
          clear gr
          rw [hx, his] at HX
          obtain ⟨s3, hs3⟩ : ∃ z, z = (gateM s 0 (gX line)).s := ⟨_, rfl⟩
          rw [← hs3] at HX hA2 hcc2 hv2
          clear hs3 hx his
          simp only [gX, MutV.val] at HX
          replace HX := hid HX
          replace hA2 := hid hA2
          have HLd := fun (W : World) (A : AAt W ab db s3.ws) => aload A 5
          rw [hv2] at HLd
          replace HLd := hid HLd
          clear hv2
          have kX := hX.cell
          have fX := hX.free
          have lX := hX.lt
          go_wp2_with fail
          go_at_call 41
          refine (HX.out _ HH).mono ?_
          rintro e w8 ⟨rfl, HH2, hF2⟩
          (replace hX := hX.kept hF2 nX)
          (have lX8 := hX.lt)
          (replace hFF := hFF.trans_new hF2 hSS)
          (replace kX := hX.cell)
          (replace fX := hX.free)
          (have hX1 := hX.alloc (.cells #[.int .i64 l2, .int .i64 11, .int .i64 0, .int .i64 0, .int .i64 0, .int .u64 0, .int .u64 0, .int .u64 0, .int .u64 0, .int .u64 0, .int .u64 0, .int .i64 0, .int .i64 0] 54))
          (have kX1 := hX1.cell)
          (have fX1 := hX1.free)
          (have hY1 := Blk.new w8 [.int .i64 l2, .int .i64 11, .int .i64 0, .int .i64 0, .int .i64 0, .int .u64 0, .int .u64 0, .int .u64 0, .int .u64 0, .int .u64 0, .int .u64 0, .int .i64 0, .int .i64 0] 54)
          (have kY1 := hY1.cell)
          (have dx1 : ¬ X = w8.heap.size := by omega)
          (have dx2 : ¬ w8.heap.size = X := by omega)
          (have kH := (HH2.alloc (.cells #[.int .i64 l2, .int .i64 11, .int .i64 0, .int .i64 0, .int .i64 0, .int .u64 0, .int .u64 0, .int .u64 0, .int .u64 0, .int .u64 0, .int .u64 0, .int .i64 0, .int .i64 0] 54)).cellsC hcc2.out)
          go_wp2_with fail
          replace HH2 := (HH2.alloc (.cells #[.int .i64 l2, .int .i64 11, .int .i64 0, .int .i64 0, .int .i64 0, .int .u64 0, .int .u64 0, .int .u64 0, .int .u64 0, .int .u64 0, .int .u64 0, .int .i64 0, .int .i64 0] 54)).drew
          replace hX := hX1.drew
          replace hY1 := hY1.drew
          replace hFF := (hFF.alloc (.cells #[.int .i64 l2, .int .i64 11, .int .i64 0, .int .i64 0, .int .i64 0, .int .u64 0, .int .u64 0, .int .u64 0, .int .u64 0, .int .u64 0, .int .u64 0, .int .i64 0, .int .i64 0] 54)).drew
          replace kX := hX.cell
          replace fX := hX.free
          have kY := hY1.cell
          replace kH := HH2.cellsC hcc2.out
          clear hX1 kX1 fX1 kY1
          go_region_held3 (fun W => W.cell? ⟨h, 0, none⟩ = some (.pointer (some ⟨ab, 0, none⟩)) ∧ W.cell? ⟨h, 1, none⟩ = some (.int .i64 2) ∧ W.cell? ⟨h, 2, none⟩ = some (.int .i64 1) ∧ W.cell? ⟨h, 3, none⟩ = some (.int .i64 1) ∧ W.cell? ⟨h, 4, none⟩ = some (.int .i64 0)) (go_keep)
            (first | (go_at_call 45; refine (HI.out _).mono ?_; rintro e w9 ⟨rfl, hF2⟩; (replace HH2 := HH2.kept0 hF2); (replace hX := hX.kept hF2 List.not_mem_nil); (replace hY1 := hY1.kept hF2 List.not_mem_nil); (replace kX := hX.cell); (replace fX := hX.free); (replace kY := hY1.cell); (replace kH := HH2.cellsC hcc2.out); (replace hFF := hFF.trans hF2)) | (go_at_call 44; refine (HLd.out _ HH2.ar).mono ?_; rintro e w10 ⟨rfl, rfl⟩))
          go_wp2_with fail
          replace hX := hX.setM (.int .i64 l2) (.int .i64 11) (.int .i64 0) (.int .i64 0) (.int .i64 0) (.int .u64 0) (.int .u64 0) (.int .u64 0) (.int .u64 0) (.int .u64 0) (.int .u64 0) (.int .i64 0) (.int .i64 0)
          go_roundw
          case rel =>
            refine ⟨k + 1, _, v2, l2, s3, by go_num, rfl, rfl, hA2.out, ?_, hX, ?_⟩
            · repeat (first | with_reducible exact HH2 | with_reducible refine HAt.other ?_ nh1 nh2 nh3 _)
            · repeat (first | with_reducible exact hFF | with_reducible refine Fr.setNew ?_ t0 _)
          case measure => simp [intOf]; omega


end Go.Proofs.Ytolkgdchinaonaa
