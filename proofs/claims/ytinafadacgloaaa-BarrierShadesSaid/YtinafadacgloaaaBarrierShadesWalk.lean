/- mudlarklaw10.BarrierShades: the walk. -/
import Derived.Test.YtinafadacgloaaaShaded
import Derived.Test.YtinafadacgloaaaAwake10
namespace Go.Proofs.Ytinafadacgloaaa
open Go.RowKit
set_option linter.unusedVariables false
set_option linter.unusedSimpArgs false

set_option maxRecDepth 100000 in
set_option maxHeartbeats 4000000 in
theorem barrierShades_any (c : Cfg) (v : Value) (l : List Int) (u : Int) (w : World) (h0 : 0 ≤ u) (h1 : u < 18446744073709551616) (hv : RdS w v l.length (u64s l)) (hl : l.length ≤ 35184372088832) (hwf : ∀ y, y ∈ l → 0 ≤ y ∧ y < 18446744073709551616) :
    Calls Try.prog 6 #[c.val, v, .int .u64 u] w fun e w' => e = .returned (.bool true) ∧ Fr [] w w' := by
  obtain ⟨ua, uc, rfl, hu⟩ := hv.elim
  clear hu
  by_cases hbo : bothOk c l.length
  · have HBo := fun W (f : Fr [] w W) => hid (both_ok (w := W) hbo.1 hbo.2.1 _ l (hv.kept0 f) hbo.2.2 hwf)
    obtain ⟨_, _, hve, hV2⟩ := hv.elim
    cases hve
    replace hV2 := hid hV2
    have hw5 := hbo.2.1.words_pos
    have h5 : 5 ≤ l.length := by have := hbo.2.2; have := hbo.2.1.words_pos; omega
    obtain ⟨s0, hs0⟩ : ∃ s : HS, s = ⟨c, l, Acc.z⟩ := ⟨_, rfl⟩
    have HI := hid (rIsCell_any u h0 h1)
    have HAtc := hid (rAt_colour hbo.2.1 u h0)
    have HFlt : c.fieldP u 2 < l.length := by rw [hbo.2.2]; exact fieldP_lt hbo.2.1 u 2
    obtain ⟨f, hf⟩ : ∃ f, f = c.fieldP u 2 := ⟨_, rfl⟩
    rw [← hf] at HFlt
    replace HFlt := hid HFlt
    have e1 : s0.c.fieldP u 2 = f := by rw [hs0, hf]
    have e2 : s0.ws = l := by rw [hs0]
    have HYes : s0.won (s0.c.fieldP u 2) 0 = true → Shaded l ((s0.doIt (aCas (s0.c.fieldP u 2) 0 1)).doIt (aStore 2 1)).ws f := fun hw => by
      have := shade_ws s0 _ (by rw [e2]; exact h5) hw
      rw [e2] at this
      rw [e1] at this ⊢
      exact this
    have HNo : s0.won (s0.c.fieldP u 2) 0 = false → Shaded l (s0.doIt (aCas (s0.c.fieldP u 2) 0 1)).ws f := fun hw => by
      have := shade_no s0 _ hw
      rw [e2] at this
      rw [e1] at this ⊢
      exact this
    replace HYes := hid HYes
    replace HNo := hid HNo
    rw [← hf] at HAtc
    obtain ⟨q, hq⟩ : ∃ q, q = cellN u := ⟨_, rfl⟩
    rw [← hq] at HI HAtc
    obtain ⟨bl, bp, bb, HBe, HBl⟩ : ∃ bl bp bb, (∀ W, Calls Try.prog 26 #[.agg #[.int .i64 7, .int .i64 0, .int .i64 0, .int .i64 0, .int .i64 0, .int .u64 0, .int .u64 0, .int .u64 0, .int .u64 0, .int .u64 0, .int .u64 0, .int .i64 0, .int .i64 0], .int .u64 u, .int .i64 40] W fun e w' => e = .returned (.agg #[.int .i64 bl, .int .i64 0, .int .i64 0, .int .i64 0, .int .i64 0, .int .u64 0, .int .u64 0, .int .u64 0, .int .u64 0, .int .u64 0, .int .u64 bp, .int .i64 bb, .int .i64 0]) ∧ Fr [] W w') ∧ ((bl = 80 ∧ bp = u ∧ bb = 40) ∨ (bl = 40 ∧ bp = 0 ∧ bb = 0 ∧ Shaded l s0.ws f)) := by
      by_cases hc : isCell u = true
      · exact ⟨80, u, 40, fun W => shBegin 7 0 0 u 40 h0 h1 hc W, .inl ⟨rfl, rfl, rfl⟩⟩
      · have hc : isCell u = false := by simpa using hc
        refine ⟨40, 0, 0, fun W => shBeginN 7 0 0 u 40 h0 h1 hc W, .inr ⟨rfl, rfl, rfl, ?_⟩⟩
        rw [e2, hf]
        refine shaded_same _ _ (fun h => ?_)
        have : c.fieldP u 2 = -1 := by simp [Cfg.fieldP, hc]
        omega
    replace HBe := hid HBe
    replace HBl := hid HBl
    have HC := hid e1
    replace hs0 := hid hs0
    clear hv hbo hwf hf e1 e2 hq hw5
    obtain ⟨cc, cm, cr, cg⟩ := c
    go_enter Try.func6, Try.ntmps6
    have hB := Blk.new w [.int .i64 cc, .int .i64 cm, .int .i64 cr, .int .i64 cg] 23
    have kB := hB.cell
    have hFF := (Fr.refl [] w).alloc (.cells #[.int .i64 cc, .int .i64 cm, .int .i64 cr, .int .i64 cg] 23)
    go_wp2_with (first | (go_at_call 25; refine (awake10_any _).mono ?_; rintro e w2 ⟨rfl, hF2⟩; (have hB := hB.kept hF2 (by simp)); (have kB := hB.cell); (have hFF := hFF.trans hF2)) | (go_at_call 28; refine (HBo _ hFF).out.mono ?_; rintro e w5 ⟨⟨h, ab, db, r, rd, cap, ext, rfl, HH, HR, q1, q2, q3, q4, q5, d1, d2, d3, d4, d5, d6⟩, hF2⟩; (have HH := HH.to hs0.out.symm); (have nb1 := Nat.lt_of_lt_of_le hB.lt q1); (have nb3 := Nat.lt_of_lt_of_le hB.lt q3); (have q1 := Nat.le_trans hFF.size q1); (have q2 := Nat.le_trans hFF.size q2); (have q3 := Nat.le_trans hFF.size q3); (have kH := HH.blk.cell); clear HR q4 q5 d1 d2 d3 d4 d5 d6; (have hB := hB.kept hF2 (by simp)); (have kB := hB.cell); (have hFF := hFF.trans hF2)) | (go_at_call 26; refine (HBe.out _).mono ?_; rintro e w5 ⟨rfl, hF2⟩; (have HH := HH.kept0 hF2); (have kH := HH.blk.cell); (have hB := hB.kept hF2 (by simp)); (have kB := hB.cell); (have hFF := hFF.trans hF2)))
    have l1 := HH.blk.lt
    have l2 := HH.ar.hdr.lt
    have l3 := HH.ar.dat.lt
    have q4 := hFF.size
    have l0 := hB.lt
    obtain ⟨X, hXe⟩ : ∃ X, X = w5.heap.size := ⟨_, rfl⟩
    have hX := Blk.new w5 [.int .i64 bl, .int .i64 0, .int .i64 0, .int .i64 0, .int .i64 0, .int .u64 0, .int .u64 0, .int .u64 0, .int .u64 0, .int .u64 0, .int .u64 bp, .int .i64 bb, .int .i64 0] 53
    have hFF := hFF.alloc (.cells #[.int .i64 bl, .int .i64 0, .int .i64 0, .int .i64 0, .int .i64 0, .int .u64 0, .int .u64 0, .int .u64 0, .int .u64 0, .int .u64 0, .int .u64 bp, .int .i64 bb, .int .i64 0] 53)
    have HH := HH.alloc (.cells #[.int .i64 bl, .int .i64 0, .int .i64 0, .int .i64 0, .int .i64 0, .int .u64 0, .int .u64 0, .int .u64 0, .int .u64 0, .int .u64 0, .int .u64 bp, .int .i64 bb, .int .i64 0] 53)
    have hB := hB.alloc (.cells #[.int .i64 bl, .int .i64 0, .int .i64 0, .int .i64 0, .int .i64 0, .int .u64 0, .int .u64 0, .int .u64 0, .int .u64 0, .int .u64 0, .int .u64 bp, .int .i64 bb, .int .i64 0] 53)
    rw [← hXe] at hX ⊢
    have n1 : h ≠ X := by omega
    have n2 : ab ≠ X := by omega
    have n3 : db ≠ X := by omega
    have nX : X ∉ [h, db] := by simp; omega
    have nB : w.heap.size ∉ [h, db] := by simp; omega
    have nB2 : w.heap.size ≠ X := by omega
    have t1 : ∀ i, i ∈ [h, db] → i < w.heap.size → i ∈ ([] : List Nat) := by intro i m l; simp at m; omega
    have t0 : w.heap.size ≤ X := by omega
    clear hXe q1 q2 q3 q4 l0 l1 l2 l3 kB kH HBo HBe
    go_loopw [11] (fun i wr => ∃ (n : Nat), i = .int .i64 n ∧ Fr [] w wr ∧ Blk wr w.heap.size 23 [.int .i64 cc, .int .i64 cm, .int .i64 cr, .int .i64 cg] ∧ ((n = 0 ∧ Blk wr X 53 [.int .i64 80, .int .i64 0, .int .i64 0, .int .i64 0, .int .i64 0, .int .u64 0, .int .u64 0, .int .u64 0, .int .u64 0, .int .u64 0, .int .u64 u, .int .i64 40, .int .i64 0] ∧ HAt wr h ab db s0) ∨ (n = 1 ∧ Blk wr X 53 [.int .i64 81, .int .i64 0, .int .i64 0, .int .i64 0, .int .i64 0, .int .u64 0, .int .u64 0, .int .u64 0, .int .u64 0, .int .u64 0, .int .u64 0, .int .i64 40, .int .i64 0] ∧ s0.won (s0.c.fieldP u 2) 0 = true ∧ HAt wr h ab db (s0.doIt (aCas (s0.c.fieldP u 2) 0 1))) ∨ (∃ s, n ≤ 2 ∧ Blk wr X 53 [.int .i64 40, .int .i64 0, .int .i64 0, .int .i64 0, .int .i64 0, .int .u64 0, .int .u64 0, .int .u64 0, .int .u64 0, .int .u64 0, .int .u64 0, .int .i64 0, .int .i64 0] ∧ HAt wr h ab db s ∧ Shaded l s.ws f))) (fun i _ => 3 - (intOf i).toNat)
    case atStart =>
      rcases HBl.out with ⟨rfl, rfl, rfl⟩ | ⟨rfl, rfl, rfl, hSh⟩
      · exact ⟨0, rfl, hFF, hB, .inl ⟨rfl, hX, HH⟩⟩
      · exact ⟨0, rfl, hFF, hB, .inr (.inr ⟨_, by omega, hX, HH, hSh⟩)⟩
    case round =>
      obtain ⟨n, rfl, hFF, hB, ⟨rfl, hX, HH⟩ | ⟨rfl, hX, hw, HH⟩ | ⟨s, hn, hX, HH, hSh⟩⟩ := hrel
      · by_cases hw : s0.won (s0.c.fieldP u 2) 0 = true
        · replace hw := hid hw
          have kX := hX.cell
          go_wp2_with fail
          go_at_call 29
          refine (sh80y HH u 40 h0 h1 hw.out).mono ?_
          rintro e w6 ⟨rfl, HH, hF2⟩
          have lX := hX.lt
          have d0 := hF2.size
          have hX := hX.kept hF2 nX
          have hB := hB.kept hF2 nB
          have hFF := hFF.trans_new hF2 t1
          have hY := Blk.new w6 [.int .i64 81, .int .i64 0, .int .i64 0, .int .i64 0, .int .i64 0, .int .u64 0, .int .u64 0, .int .u64 0, .int .u64 0, .int .u64 0, .int .u64 0, .int .i64 40, .int .i64 0] 53
          have kY := hY.cell
          have hX := hX.alloc (.cells #[.int .i64 81, .int .i64 0, .int .i64 0, .int .i64 0, .int .i64 0, .int .u64 0, .int .u64 0, .int .u64 0, .int .u64 0, .int .u64 0, .int .u64 0, .int .i64 40, .int .i64 0] 53)
          have hB := hB.alloc (.cells #[.int .i64 81, .int .i64 0, .int .i64 0, .int .i64 0, .int .i64 0, .int .u64 0, .int .u64 0, .int .u64 0, .int .u64 0, .int .u64 0, .int .u64 0, .int .i64 40, .int .i64 0] 53)
          have kX := hX.cell
          have fX := hX.free
          have HH := HH.alloc (.cells #[.int .i64 81, .int .i64 0, .int .i64 0, .int .i64 0, .int .i64 0, .int .u64 0, .int .u64 0, .int .u64 0, .int .u64 0, .int .u64 0, .int .u64 0, .int .i64 40, .int .i64 0] 53)
          have hFF := hFF.alloc (.cells #[.int .i64 81, .int .i64 0, .int .i64 0, .int .i64 0, .int .i64 0, .int .u64 0, .int .u64 0, .int .u64 0, .int .u64 0, .int .u64 0, .int .u64 0, .int .i64 40, .int .i64 0] 53)
          have d1 : ¬ X = w6.heap.size := by omega
          have d2 : ¬ w6.heap.size = X := by omega
          go_wp2_with fail
          go_roundw
          case rel =>
            refine ⟨1, rfl, ?_, ?_, .inr (.inl ⟨rfl, hX.set13 (.int .i64 81) (.int .i64 0) (.int .i64 0) (.int .i64 0) (.int .i64 0) (.int .u64 0) (.int .u64 0) (.int .u64 0) (.int .u64 0) (.int .u64 0) (.int .u64 0) (.int .i64 40) (.int .i64 0), hw.out, ?_⟩)⟩
            · repeat (first | with_reducible exact hFF | with_reducible refine Fr.setNew ?_ t0 _)
            · repeat (first | with_reducible exact hB | with_reducible refine Blk.other ?_ nB2 _)
            · repeat (first | with_reducible exact HH | with_reducible refine HAt.other ?_ n1 n2 n3 _)
          case measure => simp [intOf]
        · have hw : s0.won (s0.c.fieldP u 2) 0 = false := by simpa using hw
          replace hw := hid hw
          have kX := hX.cell
          go_wp2_with fail
          go_at_call 29
          refine (sh80n HH u 40 h0 h1 hw.out).mono ?_
          rintro e w6 ⟨rfl, HH, hF2⟩
          have lX := hX.lt
          have d0 := hF2.size
          have hX := hX.kept hF2 nX
          have hB := hB.kept hF2 nB
          have hFF := hFF.trans_new hF2 t1
          have hY := Blk.new w6 [.int .i64 40, .int .i64 0, .int .i64 0, .int .i64 0, .int .i64 0, .int .u64 0, .int .u64 0, .int .u64 0, .int .u64 0, .int .u64 0, .int .u64 0, .int .i64 0, .int .i64 0] 53
          have kY := hY.cell
          have hX := hX.alloc (.cells #[.int .i64 40, .int .i64 0, .int .i64 0, .int .i64 0, .int .i64 0, .int .u64 0, .int .u64 0, .int .u64 0, .int .u64 0, .int .u64 0, .int .u64 0, .int .i64 0, .int .i64 0] 53)
          have hB := hB.alloc (.cells #[.int .i64 40, .int .i64 0, .int .i64 0, .int .i64 0, .int .i64 0, .int .u64 0, .int .u64 0, .int .u64 0, .int .u64 0, .int .u64 0, .int .u64 0, .int .i64 0, .int .i64 0] 53)
          have kX := hX.cell
          have fX := hX.free
          have HH := HH.alloc (.cells #[.int .i64 40, .int .i64 0, .int .i64 0, .int .i64 0, .int .i64 0, .int .u64 0, .int .u64 0, .int .u64 0, .int .u64 0, .int .u64 0, .int .u64 0, .int .i64 0, .int .i64 0] 53)
          have hFF := hFF.alloc (.cells #[.int .i64 40, .int .i64 0, .int .i64 0, .int .i64 0, .int .i64 0, .int .u64 0, .int .u64 0, .int .u64 0, .int .u64 0, .int .u64 0, .int .u64 0, .int .i64 0, .int .i64 0] 53)
          have d1 : ¬ X = w6.heap.size := by omega
          have d2 : ¬ w6.heap.size = X := by omega
          go_wp2_with fail
          go_roundw
          case rel =>
            refine ⟨1, rfl, ?_, ?_, .inr (.inr ⟨_, by omega, hX.set13 (.int .i64 40) (.int .i64 0) (.int .i64 0) (.int .i64 0) (.int .i64 0) (.int .u64 0) (.int .u64 0) (.int .u64 0) (.int .u64 0) (.int .u64 0) (.int .u64 0) (.int .i64 0) (.int .i64 0), ?_, HNo.out hw.out⟩)⟩
            · repeat (first | with_reducible exact hFF | with_reducible refine Fr.setNew ?_ t0 _)
            · repeat (first | with_reducible exact hB | with_reducible refine Blk.other ?_ nB2 _)
            · repeat (first | with_reducible exact HH | with_reducible refine HAt.other ?_ n1 n2 n3 _)
          case measure => simp [intOf]
      · replace hw := hid hw
        have kX := hX.cell
        go_wp2_with fail
        go_at_call 29
        refine (sh81 HH 40).mono ?_
        rintro e w6 ⟨rfl, HH, hF2⟩
        have lX := hX.lt
        have d0 := hF2.size
        have hX := hX.kept hF2 nX
        have hB := hB.kept hF2 nB
        have hFF := hFF.trans_new hF2 t1
        have hY := Blk.new w6 [.int .i64 40, .int .i64 0, .int .i64 0, .int .i64 0, .int .i64 0, .int .u64 0, .int .u64 0, .int .u64 0, .int .u64 0, .int .u64 0, .int .u64 0, .int .i64 0, .int .i64 0] 53
        have kY := hY.cell
        have hX := hX.alloc (.cells #[.int .i64 40, .int .i64 0, .int .i64 0, .int .i64 0, .int .i64 0, .int .u64 0, .int .u64 0, .int .u64 0, .int .u64 0, .int .u64 0, .int .u64 0, .int .i64 0, .int .i64 0] 53)
        have hB := hB.alloc (.cells #[.int .i64 40, .int .i64 0, .int .i64 0, .int .i64 0, .int .i64 0, .int .u64 0, .int .u64 0, .int .u64 0, .int .u64 0, .int .u64 0, .int .u64 0, .int .i64 0, .int .i64 0] 53)
        have kX := hX.cell
        have fX := hX.free
        have HH := HH.alloc (.cells #[.int .i64 40, .int .i64 0, .int .i64 0, .int .i64 0, .int .i64 0, .int .u64 0, .int .u64 0, .int .u64 0, .int .u64 0, .int .u64 0, .int .u64 0, .int .i64 0, .int .i64 0] 53)
        have hFF := hFF.alloc (.cells #[.int .i64 40, .int .i64 0, .int .i64 0, .int .i64 0, .int .i64 0, .int .u64 0, .int .u64 0, .int .u64 0, .int .u64 0, .int .u64 0, .int .u64 0, .int .i64 0, .int .i64 0] 53)
        have d1 : ¬ X = w6.heap.size := by omega
        have d2 : ¬ w6.heap.size = X := by omega
        go_wp2_with fail
        go_roundw
        case rel =>
          refine ⟨2, rfl, ?_, ?_, .inr (.inr ⟨_, by omega, hX.set13 (.int .i64 40) (.int .i64 0) (.int .i64 0) (.int .i64 0) (.int .i64 0) (.int .u64 0) (.int .u64 0) (.int .u64 0) (.int .u64 0) (.int .u64 0) (.int .u64 0) (.int .i64 0) (.int .i64 0), ?_, HYes.out hw.out⟩)⟩
          · repeat (first | with_reducible exact hFF | with_reducible refine Fr.setNew ?_ t0 _)
          · repeat (first | with_reducible exact hB | with_reducible refine Blk.other ?_ nB2 _)
          · repeat (first | with_reducible exact HH | with_reducible refine HAt.other ?_ n1 n2 n3 _)
        case measure => simp [intOf]
      · replace hSh := hid hSh
        clear nX n1 n2 n3
        have kX := hX.cell
        have kH := HH.blk.cell
        have kB := hB.cell
        go_wp2_with (first | (go_at_call 32; refine (HI.out _).mono ?_; rintro e w5 ⟨rfl, rfl⟩) | (go_at_call 33; refine (HAtc.out _).mono ?_; rintro e w5 ⟨rfl, hF2⟩; (have HH := HH.kept0 hF2); (have kH := HH.blk.cell); (have hX := hX.kept hF2 (by simp)); (have kX := hX.cell); (have hB := hB.kept hF2 (by simp)); (have kB := hB.cell); (have hFF := hFF.trans hF2)))
        go_at_call 18
        refine HH.allD.mono ?_
        rintro e w6 ⟨⟨g, gcap, gext, rfl, hG, q9⟩, hF2⟩
        have hFF := hFF.trans hF2
        obtain ⟨ms, hms⟩ : ∃ m, m = s.ws := ⟨_, rfl⟩
        rw [← hms] at hSh hG ⊢
        have hne : ((ms.length : Int) != (l.length : Int)) = false := by rw [hSh.out.len]; simp
        clear hms hX kX HH kH hB kB HAtc HI hF2
        go_wp2_with fail
        go_loopw [17] (fun i wr => ∃ (k : Nat), k ≤ l.length ∧ i = .int .i64 k ∧ DAt wr g ms gext ∧ Fr [] w wr) (fun i _ => l.length - (intOf i).toNat)
        case atStart => exact ⟨0, by omega, rfl, hG, hFF⟩
        case round =>
          obtain ⟨k, hk, rfl, hG, hFF⟩ := hrel
          by_cases hlt : k < l.length
          · obtain ⟨b, o, rfl, hbb, hcs⟩ := hV2.out (by omega)
            have rd := fun (j : Nat) (hj : j < l.length) => ((hFF.cell (o := o + j) hbb (by simp)).trans (hcs j (by simpa using hj))).trans (u64s_get l j hj)
            have rg := fun (j : Nat) (hj : j < l.length) => (show wr.cell? ⟨g, j, none⟩ = some (.int .u64 (ms.getD j 0)) by
              have hj2 : j < ms.length := by rw [hSh.out.len]; exact hj
              rw [hG.dat.cell, List.getElem?_append_left (by simpa using hj2), u64s_get ms j hj2])
            have e1 := rd k hlt
            have e2 := rg k hlt
            have e3 := rg 2 (by omega)
            have hlk : (k : Int) < (ms.length : Int) := by rw [hSh.out.len]; omega
            have hl2 : (2 : Int) < (ms.length : Int) := by rw [hSh.out.len]; omega
            have hm2 : (2 : Nat) < ms.length := by omega
            obtain ⟨x, hx⟩ : ∃ x, x = l.getD k 0 := ⟨_, rfl⟩
            obtain ⟨y, hy⟩ : ∃ x, x = ms.getD k 0 := ⟨_, rfl⟩
            obtain ⟨z, hz⟩ : ∃ x, x = ms.getD 2 0 := ⟨_, rfl⟩
            rw [← hx] at e1
            rw [← hy] at e2
            rw [← hz] at e3
            replace hx := hid hx
            replace hy := hid hy
            replace hz := hid hz
            by_cases c1 : (k : Int) = f
            · by_cases c2 : x = 0
              · have d := hSh.out.at_ (by omega) (by omega) (by rw [← c1, Int.toNat_natCast, ← hx.out]; exact c2)
                rw [← c1, Int.toNat_natCast, ← hy.out, ← hz.out] at d
                obtain ⟨rfl, rfl⟩ := d
                subst c1
                subst c2
                clear rd rg hcs
                go_wp2_with fail
                go_roundw
                case rel => exact ⟨k + 1, by omega, by simp, hG, hFF⟩
                case measure => first | exact (by omega : l.length - (k + 1) < l.length - k) | (simp [intOf]; omega)
              · have g2 : (x == 0) = false := beq_eq_false_iff_ne.2 c2
                have d := hSh.out.other k hlt (by rw [← hx.out]; simp [c2]) (by rintro ⟨q1, q2, q3⟩; apply c2; rw [hx.out]; rw [← c1] at q3; simpa using q3)
                rw [← hx.out, ← hy.out] at d
                subst d
                subst c1
                have g3 : (0 : Int) ≤ (k : Int) := by omega
                by_cases c3 : k = 2
                · have g5 : ((k : Int) == 2) = true := beq_iff_eq.2 (by omega)
                  clear c3
                  clear rd rg hcs
                  have hxx : (y != y) = false := by simp
                  go_wp2_with fail
                  go_quiet (fail)
                  go_wp2_with fail
                  go_roundw
                  case rel => exact ⟨k + 1, by omega, by simp, by first | exact hG | exact hG.drew | exact hG.drewN _, by first | exact hFF | exact hFF.drew | exact hFF.drewN _⟩
                  case measure => first | exact (by omega : l.length - (k + 1) < l.length - k) | (simp [intOf]; omega)
                · have g4 : ((k : Int) == 2) = false := beq_eq_false_iff_ne.2 (by omega)
                  clear rd rg hcs
                  have hxx : (y != y) = false := by simp
                  go_wp2_with fail
                  go_quiet (fail)
                  go_wp2_with fail
                  go_roundw
                  case rel => exact ⟨k + 1, by omega, by simp, by first | exact hG | exact hG.drew | exact hG.drewN _, by first | exact hFF | exact hFF.drew | exact hFF.drewN _⟩
                  case measure => first | exact (by omega : l.length - (k + 1) < l.length - k) | (simp [intOf]; omega)
            · have g1 : ((k : Int) == f) = false := beq_eq_false_iff_ne.2 c1
              by_cases c3 : k = 2
              · by_cases c4 : 0 ≤ f
                · by_cases c5 : f < l.length
                  · have e4 := rd f.toNat (by omega)
                    obtain ⟨t, ht⟩ : ∃ x, x = l.getD f.toNat 0 := ⟨_, rfl⟩
                    rw [← ht] at e4
                    replace ht := hid ht
                    by_cases c6 : t = 0
                    · have d := (hSh.out.at_ c4 c5 (by rw [← ht.out]; exact c6)).2
                      rw [← hz.out] at d
                      subst c6
                      have hyz : y = z := by rw [hy.out, hz.out, c3]
                      subst hyz
                      subst d
                      have g5 : ((k : Int) == 2) = true := beq_iff_eq.2 (by omega)
                      clear c3
                      have g6 : (f : Int) < (l.length : Int) := c5
                      clear rd rg hcs
                      go_wp2_with fail
                      go_roundw
                      case rel => exact ⟨k + 1, by omega, by simp, hG, hFF⟩
                      case measure => first | exact (by omega : l.length - (k + 1) < l.length - k) | (simp [intOf]; omega)
                    · have g6 : (t == 0) = false := beq_eq_false_iff_ne.2 c6
                      have d := hSh.out.other k hlt (fun q => c1 q.1) (fun q => c6 (by rw [ht.out]; exact q.2.2))
                      rw [← hx.out, ← hy.out] at d
                      subst d
                      have g5 : ((k : Int) == 2) = true := beq_iff_eq.2 (by omega)
                      clear c3
                      have g7 : (f : Int) < (l.length : Int) := c5
                      clear rd rg hcs
                      have hxx : (y != y) = false := by simp
                      go_wp2_with fail
                      go_quiet (fail)
                      go_wp2_with fail
                      go_roundw
                      case rel => exact ⟨k + 1, by omega, by simp, by first | exact hG | exact hG.drew | exact hG.drewN _, by first | exact hFF | exact hFF.drew | exact hFF.drewN _⟩
                      case measure => first | exact (by omega : l.length - (k + 1) < l.length - k) | (simp [intOf]; omega)
                  · exact absurd HFlt.out (by omega)
                · have g4 : ¬ (0 : Int) ≤ f := c4
                  have d := hSh.out.other k hlt (fun q => c1 q.1) (fun q => c4 q.2.1)
                  rw [← hx.out, ← hy.out] at d
                  subst d
                  have g5 : ((k : Int) == 2) = true := beq_iff_eq.2 (by omega)
                  clear c3
                  clear rd rg hcs
                  have hxx : (y != y) = false := by simp
                  go_wp2_with fail
                  go_quiet (fail)
                  go_wp2_with fail
                  go_roundw
                  case rel => exact ⟨k + 1, by omega, by simp, by first | exact hG | exact hG.drew | exact hG.drewN _, by first | exact hFF | exact hFF.drew | exact hFF.drewN _⟩
                  case measure => first | exact (by omega : l.length - (k + 1) < l.length - k) | (simp [intOf]; omega)
              · have g4 : ((k : Int) == 2) = false := beq_eq_false_iff_ne.2 (by omega)
                have d := hSh.out.other k hlt (fun q => c1 q.1) (fun q => c3 q.1)
                rw [← hx.out, ← hy.out] at d
                subst d
                clear rd rg hcs
                have hxx : (y != y) = false := by simp
                go_wp2_with fail
                go_quiet (fail)
                go_wp2_with fail
                go_roundw
                case rel => exact ⟨k + 1, by omega, by simp, by first | exact hG | exact hG.drew | exact hG.drewN _, by first | exact hFF | exact hFF.drew | exact hFF.drewN _⟩
                case measure => first | exact (by omega : l.length - (k + 1) < l.length - k) | (simp [intOf]; omega)
          · go_wp2
            go_ret
            exact ⟨rfl, hFF⟩
  · have HBo := fun W (f : Fr [] w W) => hid (both_no (w := W) c _ l (hv.kept0 f) hbo hl)
    clear hv hbo hl hwf
    obtain ⟨cc, cm, cr, cg⟩ := c
    go_enter Try.func6, Try.ntmps6
    have hB := Blk.new w [.int .i64 cc, .int .i64 cm, .int .i64 cr, .int .i64 cg] 23
    have kB := hB.cell
    have hFF := (Fr.refl [] w).alloc (.cells #[.int .i64 cc, .int .i64 cm, .int .i64 cr, .int .i64 cg] 23)
    go_wp2_with (first | (go_at_call 25; refine (awake10_any _).mono ?_; rintro e w2 ⟨rfl, hF2⟩; (have hB := hB.kept hF2 (by simp)); (have kB := hB.cell); (have hFF := hFF.trans hF2)) | (go_at_call 28; refine (HBo _ hFF).out.mono ?_; rintro e w5 ⟨rfl, hF2⟩; (have hB := hB.kept hF2 (by simp)); (have kB := hB.cell); (have hFF := hFF.trans hF2)))
    go_ret
    exact ⟨rfl, hFF⟩

end Go.Proofs.Ytinafadacgloaaa
