/- mudlarklaw10.BarrierTwice: the walk. -/
import Derived.Test.YtinafadacgloaaaBarLaw
import Derived.Test.YtinafadacgloaaaAwake10
import Derived.Test.YtinafadacgloaaaLaw10
namespace Go.Proofs.Ytinafadacgloaaa
open Go.RowKit
set_option linter.unusedVariables false
set_option linter.unusedSimpArgs false

set_option maxRecDepth 100000 in
set_option maxHeartbeats 4000000 in
theorem barrierTwice_any (c : Cfg) (v : Value) (l : List Int) (u bk : Int) (w : World) (h0 : 0 ≤ u) (h1 : u < 18446744073709551616) (hb : 0 ≤ bk ∧ bk ≤ 255) (hv : RdS w v l.length (u64s l)) (hl : l.length ≤ 35184372088832) (hwf : ∀ y, y ∈ l → 0 ≤ y ∧ y < 18446744073709551616) :
    Calls Try.prog 7 #[c.val, v, .int .u64 u, .int .u8 bk] w fun e w' => e = .returned (.bool true) ∧ Fr [] w w' := by
  obtain ⟨ua, uc, rfl, hu⟩ := hv.elim
  clear hu
  obtain ⟨L, hL⟩ : ∃ L, L = 20 + bk % 20 := ⟨_, rfl⟩
  have L0 : 20 ≤ L := by omega
  have L1 : L < 40 := by omega
  have HL := hid hL
  clear hL
  by_cases hbo : bothOk c l.length
  · have HBo := fun W (f : Fr [] w W) => hid (both_ok (w := W) hbo.1 hbo.2.1 _ l (hv.kept0 f) hbo.2.2 hwf)
    clear hv hbo hl hwf
    obtain ⟨s0, hs0⟩ : ∃ s : HS, s = ⟨c, l, Acc.z⟩ := ⟨_, rfl⟩
    have hs0 := hid hs0
    have HI := hid (rIsCell_any u h0 h1)
    by_cases hc : isCell u = true
    · have HBe := hid (fun (line p b L : Int) (W : World) => shBegin line p b u L h0 h1 hc W)
      rw [cellN_yes hc] at HI
      obtain ⟨q, hq⟩ : ∃ q, q = u / 2 := ⟨_, rfl⟩
      rw [← hq] at HI
      have hq0 : ¬ q < 0 := by omega
      clear hc hq
      obtain ⟨cc, cm, cr, cg⟩ := c
      go_enter Try.func7, Try.ntmps7
      have hB := Blk.new w [.int .i64 cc, .int .i64 cm, .int .i64 cr, .int .i64 cg] 23
      have kB := hB.cell
      have hFF := (Fr.refl [] w).alloc (.cells #[.int .i64 cc, .int .i64 cm, .int .i64 cr, .int .i64 cg] 23)
      go_wp2_with (first | (go_at_call 25; refine (awake10_any _).mono ?_; rintro e w2 ⟨rfl, hF2⟩; (have hB := hB.kept hF2 (by simp)); (have kB := hB.cell); (have hFF := hFF.trans hF2)) | (go_at_call 28; refine (HBo _ hFF).out.mono ?_; rintro e w5 ⟨⟨h, ab, db, r, rd, cap, ext, rfl, HH, HR, q1, q2, q3, q4, q5, d1, d2, d3, d4, d5, d6⟩, hF2⟩; (have HH := HH.to hs0.out.symm); (have q1 := Nat.le_trans hFF.size q1); (have q2 := Nat.le_trans hFF.size q2); (have q3 := Nat.le_trans hFF.size q3); (have kH := HH.blk.cell); clear HR q4 q5 d1 d2 d3 d4 d5 d6; (have hB := hB.kept hF2 (by simp)); (have kB := hB.cell); (have hFF := hFF.trans hF2)) | (go_at_call 32; refine (HI.out _).mono ?_; rintro e w5 ⟨rfl, rfl⟩))
      rw [← HL.out]
      go_at_call 26
      refine (HBe.out _ _ _ _ _).mono ?_
      rintro e w5 ⟨rfl, hF2⟩
      have HH := HH.kept0 hF2
      have kH := HH.blk.cell
      have hB := hB.kept hF2 (by simp)
      have kB := hB.cell
      have hFF := hFF.trans hF2
      go_wp2_with fail
      have l1 := HH.blk.lt
      have l2 := HH.ar.hdr.lt
      have l3 := HH.ar.dat.lt
      have q4 := hFF.size
      obtain ⟨X, hXe⟩ : ∃ X, X = w5.heap.size := ⟨_, rfl⟩
      have hX := Blk.new w5 [.int .i64 80, .int .i64 0, .int .i64 0, .int .i64 0, .int .i64 0, .int .u64 0, .int .u64 0, .int .u64 0, .int .u64 0, .int .u64 0, .int .u64 u, .int .i64 L, .int .i64 0] 53
      have hFF := hFF.alloc (.cells #[.int .i64 80, .int .i64 0, .int .i64 0, .int .i64 0, .int .i64 0, .int .u64 0, .int .u64 0, .int .u64 0, .int .u64 0, .int .u64 0, .int .u64 u, .int .i64 L, .int .i64 0] 53)
      have HH := HH.alloc (.cells #[.int .i64 80, .int .i64 0, .int .i64 0, .int .i64 0, .int .i64 0, .int .u64 0, .int .u64 0, .int .u64 0, .int .u64 0, .int .u64 0, .int .u64 u, .int .i64 L, .int .i64 0] 53)
      rw [← hXe] at hX ⊢
      have n1 : h ≠ X := by omega
      have n2 : ab ≠ X := by omega
      have n3 : db ≠ X := by omega
      have nX : X ∉ [h, db] := by simp; omega
      have t1 : ∀ i, i ∈ [h, db] → i < w.heap.size → i ∈ ([] : List Nat) := by intro i m l; simp at m; omega
      have t0 : w.heap.size ≤ X := by omega
      clear hXe q1 q2 q3 q4 l1 l2 l3 hB kB kH HBo HI hq0
      go_loopw [15] (fun i wr => ∃ (n : Nat) (s : HS), i = .int .i64 n ∧ HAt wr h ab db s ∧ Fr [] w wr ∧ ((n = 0 ∧ Blk wr X 53 [.int .i64 80, .int .i64 0, .int .i64 0, .int .i64 0, .int .i64 0, .int .u64 0, .int .u64 0, .int .u64 0, .int .u64 0, .int .u64 0, .int .u64 u, .int .i64 L, .int .i64 0]) ∨ (n = 1 ∧ Blk wr X 53 [.int .i64 81, .int .i64 0, .int .i64 0, .int .i64 0, .int .i64 0, .int .u64 0, .int .u64 0, .int .u64 0, .int .u64 0, .int .u64 0, .int .u64 0, .int .i64 L, .int .i64 0] ∧ s.won (s.c.fieldP u 2) 0 = false) ∨ (n ≤ 2 ∧ Blk wr X 53 [.int .i64 L, .int .i64 0, .int .i64 0, .int .i64 0, .int .i64 0, .int .u64 0, .int .u64 0, .int .u64 0, .int .u64 0, .int .u64 0, .int .u64 0, .int .i64 0, .int .i64 0] ∧ s.won (s.c.fieldP u 2) 0 = false))) (fun i _ => 3 - (intOf i).toNat)
      case atStart => exact ⟨0, _, rfl, HH, hFF, .inl ⟨rfl, hX⟩⟩
      case round =>
        obtain ⟨n, s, rfl, HH, hFF, ⟨rfl, hX⟩ | ⟨rfl, hX, hw⟩ | ⟨hn, hX, hw⟩⟩ := hrel
        · by_cases hw : s.won (s.c.fieldP u 2) 0 = true
          · have hw := hid hw
            have hy := hid (s.no_win (s.c.fieldP u 2))
            have kX := hX.cell
            go_wp2_with fail
            go_at_call 29
            refine (sh80y HH u L h0 h1 hw.out).mono ?_
            rintro e w6 ⟨rfl, HH, hF2⟩
            have lX := hX.lt
            have d0 := hF2.size
            have hX := hX.kept hF2 nX
            have hFF := hFF.trans_new hF2 t1
            have hY := Blk.new w6 [.int .i64 81, .int .i64 0, .int .i64 0, .int .i64 0, .int .i64 0, .int .u64 0, .int .u64 0, .int .u64 0, .int .u64 0, .int .u64 0, .int .u64 0, .int .i64 L, .int .i64 0] 53
            have kY := hY.cell
            have hX := hX.alloc (.cells #[.int .i64 81, .int .i64 0, .int .i64 0, .int .i64 0, .int .i64 0, .int .u64 0, .int .u64 0, .int .u64 0, .int .u64 0, .int .u64 0, .int .u64 0, .int .i64 L, .int .i64 0] 53)
            have kX := hX.cell
            have fX := hX.free
            have HH := HH.alloc (.cells #[.int .i64 81, .int .i64 0, .int .i64 0, .int .i64 0, .int .i64 0, .int .u64 0, .int .u64 0, .int .u64 0, .int .u64 0, .int .u64 0, .int .u64 0, .int .i64 L, .int .i64 0] 53)
            have hFF := hFF.alloc (.cells #[.int .i64 81, .int .i64 0, .int .i64 0, .int .i64 0, .int .i64 0, .int .u64 0, .int .u64 0, .int .u64 0, .int .u64 0, .int .u64 0, .int .u64 0, .int .i64 L, .int .i64 0] 53)
            have d1 : ¬ X = w6.heap.size := by omega
            have d2 : ¬ w6.heap.size = X := by omega
            go_wp2_with fail
            go_roundw
            case rel =>
              refine ⟨1, _, rfl, ?_, ?_, .inr (.inl ⟨rfl, hX.set13 (.int .i64 81) (.int .i64 0) (.int .i64 0) (.int .i64 0) (.int .i64 0) (.int .u64 0) (.int .u64 0) (.int .u64 0) (.int .u64 0) (.int .u64 0) (.int .u64 0) (.int .i64 L) (.int .i64 0), hy.out⟩)⟩
              · repeat (first | with_reducible exact HH | with_reducible refine HAt.other ?_ n1 n2 n3 _)
              · repeat (first | with_reducible exact hFF | with_reducible refine Fr.setNew ?_ t0 _)
            case measure => simp [intOf]
          · have hw : s.won (s.c.fieldP u 2) 0 = false := by simpa using hw
            have hw := hid hw
            have hy := hid (s.no_win (s.c.fieldP u 2))
            have kX := hX.cell
            go_wp2_with fail
            go_at_call 29
            refine (sh80n HH u L h0 h1 hw.out).mono ?_
            rintro e w6 ⟨rfl, HH, hF2⟩
            have lX := hX.lt
            have d0 := hF2.size
            have hX := hX.kept hF2 nX
            have hFF := hFF.trans_new hF2 t1
            have hY := Blk.new w6 [.int .i64 L, .int .i64 0, .int .i64 0, .int .i64 0, .int .i64 0, .int .u64 0, .int .u64 0, .int .u64 0, .int .u64 0, .int .u64 0, .int .u64 0, .int .i64 0, .int .i64 0] 53
            have kY := hY.cell
            have hX := hX.alloc (.cells #[.int .i64 L, .int .i64 0, .int .i64 0, .int .i64 0, .int .i64 0, .int .u64 0, .int .u64 0, .int .u64 0, .int .u64 0, .int .u64 0, .int .u64 0, .int .i64 0, .int .i64 0] 53)
            have kX := hX.cell
            have fX := hX.free
            have HH := HH.alloc (.cells #[.int .i64 L, .int .i64 0, .int .i64 0, .int .i64 0, .int .i64 0, .int .u64 0, .int .u64 0, .int .u64 0, .int .u64 0, .int .u64 0, .int .u64 0, .int .i64 0, .int .i64 0] 53)
            have hFF := hFF.alloc (.cells #[.int .i64 L, .int .i64 0, .int .i64 0, .int .i64 0, .int .i64 0, .int .u64 0, .int .u64 0, .int .u64 0, .int .u64 0, .int .u64 0, .int .u64 0, .int .i64 0, .int .i64 0] 53)
            have d1 : ¬ X = w6.heap.size := by omega
            have d2 : ¬ w6.heap.size = X := by omega
            go_wp2_with fail
            go_roundw
            case rel =>
              refine ⟨1, _, rfl, ?_, ?_, .inr (.inr ⟨by omega, hX.set13 (.int .i64 L) (.int .i64 0) (.int .i64 0) (.int .i64 0) (.int .i64 0) (.int .u64 0) (.int .u64 0) (.int .u64 0) (.int .u64 0) (.int .u64 0) (.int .u64 0) (.int .i64 0) (.int .i64 0), hy.out⟩)⟩
              · repeat (first | with_reducible exact HH | with_reducible refine HAt.other ?_ n1 n2 n3 _)
              · repeat (first | with_reducible exact hFF | with_reducible refine Fr.setNew ?_ t0 _)
            case measure => simp [intOf]
        · have hy := hid (s.no_win_store (s.c.fieldP u 2) hw)
          clear hw
          have kX := hX.cell
          go_wp2_with fail
          go_at_call 29
          refine (sh81 HH L).mono ?_
          rintro e w6 ⟨rfl, HH, hF2⟩
          have lX := hX.lt
          have d0 := hF2.size
          have hX := hX.kept hF2 nX
          have hFF := hFF.trans_new hF2 t1
          have hY := Blk.new w6 [.int .i64 L, .int .i64 0, .int .i64 0, .int .i64 0, .int .i64 0, .int .u64 0, .int .u64 0, .int .u64 0, .int .u64 0, .int .u64 0, .int .u64 0, .int .i64 0, .int .i64 0] 53
          have kY := hY.cell
          have hX := hX.alloc (.cells #[.int .i64 L, .int .i64 0, .int .i64 0, .int .i64 0, .int .i64 0, .int .u64 0, .int .u64 0, .int .u64 0, .int .u64 0, .int .u64 0, .int .u64 0, .int .i64 0, .int .i64 0] 53)
          have kX := hX.cell
          have fX := hX.free
          have HH := HH.alloc (.cells #[.int .i64 L, .int .i64 0, .int .i64 0, .int .i64 0, .int .i64 0, .int .u64 0, .int .u64 0, .int .u64 0, .int .u64 0, .int .u64 0, .int .u64 0, .int .i64 0, .int .i64 0] 53)
          have hFF := hFF.alloc (.cells #[.int .i64 L, .int .i64 0, .int .i64 0, .int .i64 0, .int .i64 0, .int .u64 0, .int .u64 0, .int .u64 0, .int .u64 0, .int .u64 0, .int .u64 0, .int .i64 0, .int .i64 0] 53)
          have d1 : ¬ X = w6.heap.size := by omega
          have d2 : ¬ w6.heap.size = X := by omega
          go_wp2_with fail
          go_roundw
          case rel =>
            refine ⟨2, _, rfl, ?_, ?_, .inr (.inr ⟨by omega, hX.set13 (.int .i64 L) (.int .i64 0) (.int .i64 0) (.int .i64 0) (.int .i64 0) (.int .u64 0) (.int .u64 0) (.int .u64 0) (.int .u64 0) (.int .u64 0) (.int .u64 0) (.int .i64 0) (.int .i64 0), hy.out⟩)⟩
            · repeat (first | with_reducible exact HH | with_reducible refine HAt.other ?_ n1 n2 n3 _)
            · repeat (first | with_reducible exact hFF | with_reducible refine Fr.setNew ?_ t0 _)
          case measure => simp [intOf]
        · have HW := hid hw
          clear hw
          have g80 : (L == 80) = false := beq_eq_false_iff_ne.2 (by omega)
          have g81 : (L == 81) = false := beq_eq_false_iff_ne.2 (by omega)
          have kX := hX.cell
          have kH := HH.blk.cell
          go_wp2_with (first | (go_at_call 18; refine (HH2.all_of HE.out).mono ?_; rintro e w6 ⟨⟨v2, rfl, hO2⟩, hF2⟩; (have hRd := hRd.kept0 hF2); (have HH2 := HH2.kept0 hF2); (have hFF := hFF.trans hF2)) | (go_at_call 24; refine (same_true HSh.out (RdS.of_own hO2) hRd).mono ?_; rintro e w6 ⟨rfl, hF2⟩; (have hFF := hFF.trans hF2)) | (go_at_call 18; refine HH.all.mono ?_; rintro e w6 ⟨⟨v, rfl, hO⟩, hF2⟩; (have hRd := RdS.of_own hO); (have HSh := hid HH.short); (have lh := HH.blk.lt); (have ld := HH.ar.dat.lt); (have HH := HH.kept0 hF2); (have hX := hX.kept hF2 (by simp)); (have kX := hX.cell); (have hFF := hFF.trans hF2); (have hV := fun b (hb : v.ownBlock = some b) => (hO.lt b hb).1); (have hV2 : ∀ b, v.ownBlock = some b → b ∉ [h, db] := fun b hb => by have := hV b hb; simp; omega)) | (go_at_call 26; refine (HBe.out _ _ _ _ _).mono ?_; rintro e w5 ⟨rfl, hF2⟩; (have hRd := hRd.kept0 hF2); (have HH := HH.kept0 hF2); (have hX := hX.kept hF2 (by simp)); (have kX := hX.cell); (have hFF := hFF.trans hF2)) | (go_at_call 29; refine (sh80n HH u L h0 h1 HW.out).mono ?_; rintro e w6 ⟨rfl, HH2, hF2⟩; (have HE := hid (HS.no_win_ws _ _ HW.out)); (have hRd := (hRd.kept hF2 hV2).alloc (.cells #[.int .i64 L, .int .i64 0, .int .i64 0, .int .i64 0, .int .i64 0, .int .u64 0, .int .u64 0, .int .u64 0, .int .u64 0, .int .u64 0, .int .u64 0, .int .i64 0, .int .i64 0] 53)); (have hX := (hX.kept hF2 nX).alloc (.cells #[.int .i64 L, .int .i64 0, .int .i64 0, .int .i64 0, .int .i64 0, .int .u64 0, .int .u64 0, .int .u64 0, .int .u64 0, .int .u64 0, .int .u64 0, .int .i64 0, .int .i64 0] 53)); (have kX := hX.cell); (have HH2 := HH2.alloc (.cells #[.int .i64 L, .int .i64 0, .int .i64 0, .int .i64 0, .int .i64 0, .int .u64 0, .int .u64 0, .int .u64 0, .int .u64 0, .int .u64 0, .int .u64 0, .int .i64 0, .int .i64 0] 53)); (have hY := Blk.new w6 [.int .i64 L, .int .i64 0, .int .i64 0, .int .i64 0, .int .i64 0, .int .u64 0, .int .u64 0, .int .u64 0, .int .u64 0, .int .u64 0, .int .u64 0, .int .i64 0, .int .i64 0] 53); (have kY := hY.cell); (have kH2 := HH2.blk.cell); (have hFF := (hFF.trans_new hF2 t1).alloc (.cells #[.int .i64 L, .int .i64 0, .int .i64 0, .int .i64 0, .int .i64 0, .int .u64 0, .int .u64 0, .int .u64 0, .int .u64 0, .int .u64 0, .int .u64 0, .int .i64 0, .int .i64 0] 53))))
          go_ret
          exact ⟨rfl, hFF⟩
    · have hc : isCell u = false := by simpa using hc
      have HBe := hid (fun (line p b L : Int) (W : World) => shBeginN line p b u L h0 h1 hc W)
      rw [cellN_no hc] at HI
      clear hc
      obtain ⟨cc, cm, cr, cg⟩ := c
      go_enter Try.func7, Try.ntmps7
      have hB := Blk.new w [.int .i64 cc, .int .i64 cm, .int .i64 cr, .int .i64 cg] 23
      have kB := hB.cell
      have hFF := (Fr.refl [] w).alloc (.cells #[.int .i64 cc, .int .i64 cm, .int .i64 cr, .int .i64 cg] 23)
      go_wp2_with (first | (go_at_call 25; refine (awake10_any _).mono ?_; rintro e w2 ⟨rfl, hF2⟩; (have hB := hB.kept hF2 (by simp)); (have kB := hB.cell); (have hFF := hFF.trans hF2)) | (go_at_call 28; refine (HBo _ hFF).out.mono ?_; rintro e w5 ⟨⟨h, ab, db, r, rd, cap, ext, rfl, HH, HR, q1, q2, q3, q4, q5, d1, d2, d3, d4, d5, d6⟩, hF2⟩; (have HH := HH.to hs0.out.symm); (have q1 := Nat.le_trans hFF.size q1); (have q2 := Nat.le_trans hFF.size q2); (have q3 := Nat.le_trans hFF.size q3); (have kH := HH.blk.cell); clear HR q4 q5 d1 d2 d3 d4 d5 d6; (have hB := hB.kept hF2 (by simp)); (have kB := hB.cell); (have hFF := hFF.trans hF2)) | (go_at_call 32; refine (HI.out _).mono ?_; rintro e w5 ⟨rfl, rfl⟩))
      rw [← HL.out]
      go_at_call 26
      refine (HBe.out _ _ _ _ _).mono ?_
      rintro e w5 ⟨rfl, hF2⟩
      have HH := HH.kept0 hF2
      have kH := HH.blk.cell
      have hB := hB.kept hF2 (by simp)
      have kB := hB.cell
      have hFF := hFF.trans hF2
      go_wp2_with fail
      go_ret
      exact ⟨rfl, hFF.alloc _⟩
  · have HBo := fun W (f : Fr [] w W) => hid (both_no (w := W) c _ l (hv.kept0 f) hbo hl)
    clear hv hbo hl hwf
    obtain ⟨cc, cm, cr, cg⟩ := c
    go_enter Try.func7, Try.ntmps7
    have hB := Blk.new w [.int .i64 cc, .int .i64 cm, .int .i64 cr, .int .i64 cg] 23
    have kB := hB.cell
    have hFF := (Fr.refl [] w).alloc (.cells #[.int .i64 cc, .int .i64 cm, .int .i64 cr, .int .i64 cg] 23)
    go_wp2_with (first | (go_at_call 25; refine (awake10_any _).mono ?_; rintro e w2 ⟨rfl, hF2⟩; (have hB := hB.kept hF2 (by simp)); (have kB := hB.cell); (have hFF := hFF.trans hF2)) | (go_at_call 28; refine (HBo _ hFF).out.mono ?_; rintro e w5 ⟨rfl, hF2⟩; (have hB := hB.kept hF2 (by simp)); (have kB := hB.cell); (have hFF := hFF.trans hF2)))
    go_ret
    exact ⟨rfl, hFF⟩

end Go.Proofs.Ytinafadacgloaaa
