/- mudlarklaw07.HandLast: the walk. -/
import Derived.Test.YtciojmdppfgelaaAwake07
import Derived.Test.YtciojmdppfgelaaActs
import Derived.Test.YtciojmdppfgelaaHandMore
namespace Go.Proofs.Ytciojmdppfgelaa
open Go.RowKit
set_option linter.unusedVariables false
set_option linter.unusedSimpArgs false

set_option maxRecDepth 100000 in
set_option maxHeartbeats 4000000 in
theorem handLast_any (c : Cfg) (u : Value) (n : Nat) (w : World) (hu : ActsAt w u n) :
    Calls Try.prog 11 #[c.val, u] w fun e w' => e = .returned (.bool true) ∧ Fr [] w w' := by
  obtain ⟨ua, uc, rfl, huc⟩ := hu
  have HU := hid huc
  clear huc
  by_cases hr : c.right = true
  · have hR := (c.right_iff).1 hr
    have HN := hid (fun W => new_ok (w := W) hR)
    obtain ⟨f, hf⟩ : ∃ f, f = firstW c := ⟨_, rfl⟩
    rw [← hf] at HN
    have HG := hid (fun W => great_any c W)
    clear hr hR hf
    by_cases hg : c.great = true
    · rw [hg] at HG
      clear hg
      obtain ⟨cc, cm, cr, cg⟩ := c
      go_enter Try.func11, Try.ntmps11
      have hB := Blk.new w [.int .i64 cc, .int .i64 cm, .int .i64 cr, .int .i64 cg] 33
      have kB := hB.cell
      have hFF := (Fr.refl [] w).alloc (.cells #[.int .i64 cc, .int .i64 cm, .int .i64 cr, .int .i64 cg] 33)
      go_wp2_with (first | (go_at_call 48; with_reducible refine (awake07_any _).mono ?_; rintro e w2 ⟨rfl, hF2⟩; (have hB := hB.kept hF2 (by simp)); (have kB := hB.cell); (have hFF := hFF.trans hF2)) | (go_at_call 61; refine (HN.out _).mono ?_; rintro e w2 ⟨⟨h, ab, db, rfl, HH, q1, q2, q3⟩, hF2⟩; (have q1 := Nat.le_trans hFF.size q1); (have q2 := Nat.le_trans hFF.size q2); (have q3 := Nat.le_trans hFF.size q3); (have kH := HH.blk.cell); (have hB := hB.kept hF2 (by simp)); (have kB := hB.cell); (have hFF := hFF.trans hF2)) | (go_at_call 22; refine (HG.out _).mono ?_; rintro e w2 ⟨rfl, hF2⟩; (have HH := HH.kept0 hF2); (have kH := HH.blk.cell); (have hB := hB.kept hF2 (by simp)); (have kB := hB.cell); (have hFF := hFF.trans hF2)))
      go_ret
      exact ⟨rfl, hFF⟩
    have hg0 : c.great = false := by simpa using hg
    rw [hg0] at HG
    clear hg hg0
    by_cases hn : 60 < n
    · have hn2 : (60 : Int) < (n : Int) := by omega
      obtain ⟨cc, cm, cr, cg⟩ := c
      go_enter Try.func11, Try.ntmps11
      have hB := Blk.new w [.int .i64 cc, .int .i64 cm, .int .i64 cr, .int .i64 cg] 33
      have kB := hB.cell
      have hFF := (Fr.refl [] w).alloc (.cells #[.int .i64 cc, .int .i64 cm, .int .i64 cr, .int .i64 cg] 33)
      go_wp2_with (first | (go_at_call 48; with_reducible refine (awake07_any _).mono ?_; rintro e w2 ⟨rfl, hF2⟩; (have hB := hB.kept hF2 (by simp)); (have kB := hB.cell); (have hFF := hFF.trans hF2)) | (go_at_call 61; refine (HN.out _).mono ?_; rintro e w2 ⟨⟨h, ab, db, rfl, HH, q1, q2, q3⟩, hF2⟩; (have q1 := Nat.le_trans hFF.size q1); (have q2 := Nat.le_trans hFF.size q2); (have q3 := Nat.le_trans hFF.size q3); (have kH := HH.blk.cell); (have hB := hB.kept hF2 (by simp)); (have kB := hB.cell); (have hFF := hFF.trans hF2)) | (go_at_call 22; refine (HG.out _).mono ?_; rintro e w2 ⟨rfl, hF2⟩; (have HH := HH.kept0 hF2); (have kH := HH.blk.cell); (have hB := hB.kept hF2 (by simp)); (have kB := hB.cell); (have hFF := hFF.trans hF2)))
      go_ret
      exact ⟨rfl, hFF⟩
    have hn2 : ¬ (60 : Int) < (n : Int) := by omega
    obtain ⟨cc, cm, cr, cg⟩ := c
    go_enter Try.func11, Try.ntmps11
    have hB := Blk.new w [.int .i64 cc, .int .i64 cm, .int .i64 cr, .int .i64 cg] 33
    have kB := hB.cell
    have hFF := (Fr.refl [] w).alloc (.cells #[.int .i64 cc, .int .i64 cm, .int .i64 cr, .int .i64 cg] 33)
    go_wp2_with (first | (go_at_call 48; with_reducible refine (awake07_any _).mono ?_; rintro e w2 ⟨rfl, hF2⟩; (have hB := hB.kept hF2 (by simp)); (have kB := hB.cell); (have hFF := hFF.trans hF2)) | (go_at_call 61; refine (HN.out _).mono ?_; rintro e w2 ⟨⟨h, ab, db, rfl, HH, q1, q2, q3⟩, hF2⟩; (have q1 := Nat.le_trans hFF.size q1); (have q2 := Nat.le_trans hFF.size q2); (have q3 := Nat.le_trans hFF.size q3); (have kH := HH.blk.cell); (have hB := hB.kept hF2 (by simp)); (have kB := hB.cell); (have hFF := hFF.trans hF2)) | (go_at_call 22; refine (HG.out _).mono ?_; rintro e w2 ⟨rfl, hF2⟩; (have HH := HH.kept0 hF2); (have kH := HH.blk.cell); (have hB := hB.kept hF2 (by simp)); (have kB := hB.cell); (have hFF := hFF.trans hF2)) | (go_at_call 60; refine HH.allD.mono ?_; rintro e w2 ⟨⟨g, cap, ext, rfl, hG, q4⟩, hF2⟩; (have q5 := HH.blk.lt); (have q6 := HH.ar.hdr.lt); (have q7 := HH.ar.dat.lt); (have q4' := Nat.le_trans hFF.size q4); (have HH := HH.kept0 hF2); (have kH := HH.blk.cell); (have hB := hB.kept hF2 (by simp)); (have kB := hB.cell); (have hFF := hFF.trans hF2)))
    have l1 := HH.blk.lt
    have l2 := HH.ar.hdr.lt
    have l3 := HH.ar.dat.lt
    have l4 := hG.dat.lt
    have nG1 : h ≠ g := by omega
    have nG2 : ab ≠ g := by omega
    have nG3 : db ≠ g := by omega
    have nG0 : g ∉ [h, db] := by simp; omega
    have t1 : ∀ i, i ∈ [h, db] → i < w.heap.size → i ∈ ([] : List Nat) := by intro i m l; simp at m; omega
    have t3 : ∀ i, i ∈ [g] → i < w.heap.size → i ∈ ([] : List Nat) := by intro i m l; simp at m; omega
    obtain ⟨m, hm⟩ : ∃ m, m = f.length := ⟨_, rfl⟩
    rw [← hm]
    have HM := hid hm.symm
    clear hm HN HG q1 q2 q3 q4 q5 q6 q7 q4' l1 l2 l3 l4 hB kB kH
    go_loopw [8] (fun i wr => ∃ (k : Nat) (s : HS), k ≤ n ∧ i = .int .i64 k ∧ HAt wr h ab db s ∧ DAt wr g s.ws ext ∧ Hid (s.ws.length = m) ∧ Fr [] w wr) (fun i _ => n - (intOf i).toNat)
    case atStart => exact ⟨0, _, by omega, rfl, HH, hG, HM, hFF⟩
    case round =>
      obtain ⟨k, ⟨c, ws, acc⟩, hk, rfl, HH, hG, HM2, hFr⟩ := hrel
      by_cases hlt : k < n
      · obtain ⟨bb, oo, rfl, hbb, hcs⟩ := HU.out (by omega)
        obtain ⟨⟨kd, ap, x, y⟩, e0, e1, e2, e3, bx, byy, b1, b2⟩ := hcs k hlt
        simp only at e0 e1 e2 e3 bx byy b1 b2
        have e0 := (hFr.cell hbb (by simp)).trans e0
        have e1 := (hFr.cell hbb (by simp)).trans e1
        have e2 := (hFr.cell hbb (by simp)).trans e2
        have e3 := (hFr.cell hbb (by simp)).trans e3
        have hpos : (0 : Int) < (ws.length : Int) := HH.pos
        have l1 := HH.blk.lt
        have l3 := HH.ar.dat.lt
        have l4 := hG.dat.lt
        have hA := Blk.new wr [.int .i64 kd, .int .i64 ap, .int .u64 x, .int .u64 y] 90
        have HH := HH.alloc (.cells #[.int .i64 kd, .int .i64 ap, .int .u64 x, .int .u64 y] 90)
        have hG := hG.alloc (.cells #[.int .i64 kd, .int .i64 ap, .int .u64 x, .int .u64 y] 90)
        have hFr := hFr.alloc (.cells #[.int .i64 kd, .int .i64 ap, .int .u64 x, .int .u64 y] 90)
        have kA := hA.cell
        have nA1 : wr.heap.size ∉ [h, db] := by have := l1; have := l3; simp; omega
        clear hcs hbb l1 l3 l4
        by_cases d1 : kd = 1
        · subst d1
          go_wp2_with fail
          go_at_call 59
          refine (clear_any HH).mono ?_
          rintro e w4 ⟨rfl, HH, hF2⟩
          have hA := hA.kept hF2 nA1
          have kA := hA.cell
          have hG := hG.kept hF2 nG0
          have hFr := hFr.trans_new hF2 t1
          clear hF2
          go_wp2_with fail
          go_at_call 51
          refine (hload_any HH _).mono ?_
          rintro e w4 ⟨rfl, HH, hF2⟩
          have hA := hA.kept hF2 nA1
          have kA := hA.cell
          have hG := hG.kept hF2 nG0
          have hFr := hFr.trans_new hF2 t1
          clear hF2
          rcases doIt_load ⟨c, ws, Acc.z⟩ ap with hs | ⟨h0, h1, hs⟩
          · have h0 : (0 : Int) ≤ 0 := by omega
            have h1 := hpos
            obtain ⟨o, ho⟩ : ∃ o, o = wAt ws 0 := ⟨_, rfl⟩
            have HH : HAt w4 h ab db ⟨c, ws, ⟨0, 0, 0, 0, 0⟩⟩ := HH.to (by subst ho; exact hs)
            have hm1 : (0 : Int) < (m : Int) := by rw [← HM2.out]; exact h1
            clear hA kA nA1 e0 e1 e2 e3
            clear hs
            have hGlt := hG.dat.lt
            have kH := HH.blk.cell
            have hX := Blk.new w4 [.int .i64 0, .int .i64 0, .int .u64 0, .int .u64 0, .int .u64 0] 70
            have kX := hX.cell
            have hG1 := hG.alloc (.cells #[.int .i64 0, .int .i64 0, .int .u64 0, .int .u64 0, .int .u64 0] 70)
            have kG : (w4.alloc (.cells #[.int .i64 0, .int .i64 0, .int .u64 0, .int .u64 0, .int .u64 0] 70)).cell? ⟨g, 0, none⟩ = some (.int .u64 (wAt ws 0)) := hG1.cell (0) h0 h1
            rw [← ho] at kG
            have fG := hG1.dat.free
            have HH := HH.alloc (.cells #[.int .i64 0, .int .i64 0, .int .u64 0, .int .u64 0, .int .u64 0] 70)
            have hFr := hFr.alloc (.cells #[.int .i64 0, .int .i64 0, .int .u64 0, .int .u64 0, .int .u64 0] 70)
            have hG := hG1
            have HM3 := HM2
            have kH5 := HH.blk.cell
            clear ho
            go_wp2_with (first | (go_at_call 60; go_must (refine HH.all.mono ?_); rintro e w6 ⟨⟨v, rfl, hO⟩, hF2⟩; (have HH := HH.kept0 hF2); (have hG := hG.kept hF2 (by simp)); (have hFr := hFr.trans hF2)) | (go_at_call 32; go_must (refine (same_true HH.short (RdS.of_own hO) (hG.rdsm HM3.out)).mono ?_); rintro e w6 ⟨rfl, hF2⟩; (have HH := HH.kept0 hF2); (have hG := hG.kept hF2 (by simp)); (have hFr := hFr.trans hF2)))
            go_roundw
            case rel => exact ⟨k + 1, ⟨c, _, _⟩, by omega, by simp, HH, hG, HM3, hFr⟩
            case measure => simp [intOf]; omega
          · have h1 : ap < (ws.length : Int) := h1
            obtain ⟨o, ho⟩ : ∃ o, o = wAt ws ap := ⟨_, rfl⟩
            have HH : HAt w4 h ab db ⟨c, ws, ⟨1, ap, 0, 0, o⟩⟩ := HH.to (by subst ho; exact hs)
            have hm1 : (ap : Int) < (m : Int) := by rw [← HM2.out]; exact h1
            clear hA kA nA1 e0 e1 e2 e3
            clear hs
            have hGlt := hG.dat.lt
            have kH := HH.blk.cell
            have hX := Blk.new w4 [.int .i64 1, .int .i64 ap, .int .u64 0, .int .u64 0, .int .u64 o] 70
            have kX := hX.cell
            have hG1 := hG.alloc (.cells #[.int .i64 1, .int .i64 ap, .int .u64 0, .int .u64 0, .int .u64 o] 70)
            have kG : (w4.alloc (.cells #[.int .i64 1, .int .i64 ap, .int .u64 0, .int .u64 0, .int .u64 o] 70)).cell? ⟨g, ap.toNat, none⟩ = some (.int .u64 (wAt ws ap)) := hG1.cell (ap) h0 h1
            rw [← ho] at kG
            have fG := hG1.dat.free
            have HH := HH.alloc (.cells #[.int .i64 1, .int .i64 ap, .int .u64 0, .int .u64 0, .int .u64 o] 70)
            have hFr := hFr.alloc (.cells #[.int .i64 1, .int .i64 ap, .int .u64 0, .int .u64 0, .int .u64 o] 70)
            have hG := hG1
            have HM3 := HM2
            have kH5 := HH.blk.cell
            clear ho
            go_wp2_with (first | (go_at_call 60; go_must (refine HH.all.mono ?_); rintro e w6 ⟨⟨v, rfl, hO⟩, hF2⟩; (have HH := HH.kept0 hF2); (have hG := hG.kept hF2 (by simp)); (have hFr := hFr.trans hF2)) | (go_at_call 32; go_must (refine (same_true HH.short (RdS.of_own hO) (hG.rdsm HM3.out)).mono ?_); rintro e w6 ⟨rfl, hF2⟩; (have HH := HH.kept0 hF2); (have hG := hG.kept hF2 (by simp)); (have hFr := hFr.trans hF2)))
            go_roundw
            case rel => exact ⟨k + 1, ⟨c, _, _⟩, by omega, by simp, HH, hG, HM3, hFr⟩
            case measure => simp [intOf]; omega
        have g1 : (kd == 1) = false := beq_eq_false_iff_ne.2 d1
        by_cases d2 : kd = 2
        · subst d2
          go_wp2_with fail
          go_at_call 59
          refine (clear_any HH).mono ?_
          rintro e w4 ⟨rfl, HH, hF2⟩
          have hA := hA.kept hF2 nA1
          have kA := hA.cell
          have hG := hG.kept hF2 nG0
          have hFr := hFr.trans_new hF2 t1
          clear hF2
          go_wp2_with fail
          go_at_call 53
          refine (hstore_any HH _ _ bx).mono ?_
          rintro e w4 ⟨rfl, HH, hF2⟩
          have hA := hA.kept hF2 nA1
          have kA := hA.cell
          have hG := hG.kept hF2 nG0
          have hFr := hFr.trans_new hF2 t1
          clear hF2
          rcases doIt_store ⟨c, ws, Acc.z⟩ ap x with hs | ⟨h0, h1, hs⟩
          · have h0 : (0 : Int) ≤ 0 := by omega
            have h1 := hpos
            obtain ⟨o, ho⟩ : ∃ o, o = wAt ws 0 := ⟨_, rfl⟩
            have HH : HAt w4 h ab db ⟨c, ws, ⟨0, 0, 0, 0, 0⟩⟩ := HH.to (by subst ho; exact hs)
            have hm1 : (0 : Int) < (m : Int) := by rw [← HM2.out]; exact h1
            clear hA kA nA1 e0 e1 e2 e3
            clear hs
            have hGlt := hG.dat.lt
            have kH := HH.blk.cell
            have hX := Blk.new w4 [.int .i64 0, .int .i64 0, .int .u64 0, .int .u64 0, .int .u64 0] 70
            have kX := hX.cell
            have hG1 := hG.alloc (.cells #[.int .i64 0, .int .i64 0, .int .u64 0, .int .u64 0, .int .u64 0] 70)
            have kG : (w4.alloc (.cells #[.int .i64 0, .int .i64 0, .int .u64 0, .int .u64 0, .int .u64 0] 70)).cell? ⟨g, 0, none⟩ = some (.int .u64 (wAt ws 0)) := hG1.cell (0) h0 h1
            rw [← ho] at kG
            have fG := hG1.dat.free
            have HH := HH.alloc (.cells #[.int .i64 0, .int .i64 0, .int .u64 0, .int .u64 0, .int .u64 0] 70)
            have hFr := hFr.alloc (.cells #[.int .i64 0, .int .i64 0, .int .u64 0, .int .u64 0, .int .u64 0] 70)
            have hG := hG1
            have HM3 := HM2
            have kH5 := HH.blk.cell
            clear ho
            go_wp2_with (first | (go_at_call 60; go_must (refine HH.all.mono ?_); rintro e w6 ⟨⟨v, rfl, hO⟩, hF2⟩; (have HH := HH.kept0 hF2); (have hG := hG.kept hF2 (by simp)); (have hFr := hFr.trans hF2)) | (go_at_call 32; go_must (refine (same_true HH.short (RdS.of_own hO) (hG.rdsm HM3.out)).mono ?_); rintro e w6 ⟨rfl, hF2⟩; (have HH := HH.kept0 hF2); (have hG := hG.kept hF2 (by simp)); (have hFr := hFr.trans hF2)))
            go_roundw
            case rel => exact ⟨k + 1, ⟨c, _, _⟩, by omega, by simp, HH, hG, HM3, hFr⟩
            case measure => simp [intOf]; omega
          · have h1 : ap < (ws.length : Int) := h1
            obtain ⟨o, ho⟩ : ∃ o, o = wAt ws ap := ⟨_, rfl⟩
            have hnew := bx
            have HH : HAt w4 h ab db ⟨c, ws.set ap.toNat x, ⟨2, ap, x, 0, o⟩⟩ := HH.to (by subst ho; exact hs)
            have hm1 : (ap : Int) < (m : Int) := by rw [← HM2.out]; exact h1
            clear hA kA nA1 e0 e1 e2 e3
            clear hs
            have hGlt := hG.dat.lt
            have kH := HH.blk.cell
            have hX := Blk.new w4 [.int .i64 2, .int .i64 ap, .int .u64 x, .int .u64 0, .int .u64 o] 70
            have kX := hX.cell
            have hG1 := hG.alloc (.cells #[.int .i64 2, .int .i64 ap, .int .u64 x, .int .u64 0, .int .u64 o] 70)
            have kG : (w4.alloc (.cells #[.int .i64 2, .int .i64 ap, .int .u64 x, .int .u64 0, .int .u64 o] 70)).cell? ⟨g, ap.toNat, none⟩ = some (.int .u64 (wAt ws ap)) := hG1.cell (ap) h0 h1
            rw [← ho] at kG
            have fG := hG1.dat.free
            have HM3 := hid (show (ws.set (ap).toNat x).length = m by rw [List.length_set]; exact HM2.out)
            have HH := (HH.other (p := ⟨g, (ap).toNat, none⟩) nG1 nG2 nG3 (.int .u64 x)).alloc (.cells #[.int .i64 2, .int .i64 ap, .int .u64 x, .int .u64 0, .int .u64 o] 70)
            have hG := (hG.set (ap).toNat (by omega) x hnew).alloc (.cells #[.int .i64 2, .int .i64 ap, .int .u64 x, .int .u64 0, .int .u64 o] 70)
            have hX5 := Blk.new (w4.setCell ⟨g, (ap).toNat, none⟩ (.int .u64 x)) [.int .i64 2, .int .i64 ap, .int .u64 x, .int .u64 0, .int .u64 o] 70
            rw [World.size_setCell] at hX5
            have hFr := (hFr.setCell (p := ⟨g, (ap).toNat, none⟩) (t3 g (by simp)) (.int .u64 x)).alloc (.cells #[.int .i64 2, .int .i64 ap, .int .u64 x, .int .u64 0, .int .u64 o] 70)
            have kX5 := hX5.cell
            have hX := hX5
            have kH5 := HH.blk.cell
            clear ho
            go_wp2_with (first | (go_at_call 60; go_must (refine HH.all.mono ?_); rintro e w6 ⟨⟨v, rfl, hO⟩, hF2⟩; (have HH := HH.kept0 hF2); (have hG := hG.kept hF2 (by simp)); (have hFr := hFr.trans hF2)) | (go_at_call 32; go_must (refine (same_true HH.short (RdS.of_own hO) (hG.rdsm HM3.out)).mono ?_); rintro e w6 ⟨rfl, hF2⟩; (have HH := HH.kept0 hF2); (have hG := hG.kept hF2 (by simp)); (have hFr := hFr.trans hF2)))
            go_roundw
            case rel => exact ⟨k + 1, ⟨c, _, _⟩, by omega, by simp, HH, hG, HM3, hFr⟩
            case measure => simp [intOf]; omega
        have g2 : (kd == 2) = false := beq_eq_false_iff_ne.2 d2
        by_cases d3 : kd = 3
        · subst d3
          go_wp2_with fail
          go_at_call 59
          refine (clear_any HH).mono ?_
          rintro e w4 ⟨rfl, HH, hF2⟩
          have hA := hA.kept hF2 nA1
          have kA := hA.cell
          have hG := hG.kept hF2 nG0
          have hFr := hFr.trans_new hF2 t1
          clear hF2
          go_wp2_with fail
          go_at_call 55
          refine (hcas_any HH _ _ _ bx byy).mono ?_
          rintro e w4 ⟨rfl, HH, hF2⟩
          have hA := hA.kept hF2 nA1
          have kA := hA.cell
          have hG := hG.kept hF2 nG0
          have hFr := hFr.trans_new hF2 t1
          clear hF2
          rcases doIt_cas ⟨c, ws, Acc.z⟩ ap x y with hs | ⟨h0, h1, ho, hs⟩ | ⟨h0, h1, hne, hs⟩
          · have h0 : (0 : Int) ≤ 0 := by omega
            have h1 := hpos
            obtain ⟨o, ho⟩ : ∃ o, o = wAt ws 0 := ⟨_, rfl⟩
            have HH : HAt w4 h ab db ⟨c, ws, ⟨0, 0, 0, 0, 0⟩⟩ := HH.to (by subst ho; exact hs)
            have hm1 : (0 : Int) < (m : Int) := by rw [← HM2.out]; exact h1
            clear hA kA nA1 e0 e1 e2 e3
            clear hs
            have hGlt := hG.dat.lt
            have kH := HH.blk.cell
            have hX := Blk.new w4 [.int .i64 0, .int .i64 0, .int .u64 0, .int .u64 0, .int .u64 0] 70
            have kX := hX.cell
            have hG1 := hG.alloc (.cells #[.int .i64 0, .int .i64 0, .int .u64 0, .int .u64 0, .int .u64 0] 70)
            have kG : (w4.alloc (.cells #[.int .i64 0, .int .i64 0, .int .u64 0, .int .u64 0, .int .u64 0] 70)).cell? ⟨g, 0, none⟩ = some (.int .u64 (wAt ws 0)) := hG1.cell (0) h0 h1
            rw [← ho] at kG
            have fG := hG1.dat.free
            have HH := HH.alloc (.cells #[.int .i64 0, .int .i64 0, .int .u64 0, .int .u64 0, .int .u64 0] 70)
            have hFr := hFr.alloc (.cells #[.int .i64 0, .int .i64 0, .int .u64 0, .int .u64 0, .int .u64 0] 70)
            have hG := hG1
            have HM3 := HM2
            have kH5 := HH.blk.cell
            clear ho
            go_wp2_with (first | (go_at_call 60; go_must (refine HH.all.mono ?_); rintro e w6 ⟨⟨v, rfl, hO⟩, hF2⟩; (have HH := HH.kept0 hF2); (have hG := hG.kept hF2 (by simp)); (have hFr := hFr.trans hF2)) | (go_at_call 32; go_must (refine (same_true HH.short (RdS.of_own hO) (hG.rdsm HM3.out)).mono ?_); rintro e w6 ⟨rfl, hF2⟩; (have HH := HH.kept0 hF2); (have hG := hG.kept hF2 (by simp)); (have hFr := hFr.trans hF2)))
            go_roundw
            case rel => exact ⟨k + 1, ⟨c, _, _⟩, by omega, by simp, HH, hG, HM3, hFr⟩
            case measure => simp [intOf]; omega
          · have h1 : ap < (ws.length : Int) := h1
            have ho : x = wAt ws ap := ho.symm
            have hnew := byy
            have HH : HAt w4 h ab db ⟨c, ws.set ap.toNat y, ⟨3, ap, x, y, x⟩⟩ := HH.to (by subst ho; exact hs)
            have hm1 : (ap : Int) < (m : Int) := by rw [← HM2.out]; exact h1
            clear hA kA nA1 e0 e1 e2 e3
            clear hs
            have hGlt := hG.dat.lt
            have kH := HH.blk.cell
            have hX := Blk.new w4 [.int .i64 3, .int .i64 ap, .int .u64 x, .int .u64 y, .int .u64 x] 70
            have kX := hX.cell
            have hG1 := hG.alloc (.cells #[.int .i64 3, .int .i64 ap, .int .u64 x, .int .u64 y, .int .u64 x] 70)
            have kG : (w4.alloc (.cells #[.int .i64 3, .int .i64 ap, .int .u64 x, .int .u64 y, .int .u64 x] 70)).cell? ⟨g, ap.toNat, none⟩ = some (.int .u64 (wAt ws ap)) := hG1.cell (ap) h0 h1
            rw [← ho] at kG
            have fG := hG1.dat.free
            have HM3 := hid (show (ws.set (ap).toNat y).length = m by rw [List.length_set]; exact HM2.out)
            have HH := (HH.other (p := ⟨g, (ap).toNat, none⟩) nG1 nG2 nG3 (.int .u64 y)).alloc (.cells #[.int .i64 3, .int .i64 ap, .int .u64 x, .int .u64 y, .int .u64 x] 70)
            have hG := (hG.set (ap).toNat (by omega) y hnew).alloc (.cells #[.int .i64 3, .int .i64 ap, .int .u64 x, .int .u64 y, .int .u64 x] 70)
            have hX5 := Blk.new (w4.setCell ⟨g, (ap).toNat, none⟩ (.int .u64 y)) [.int .i64 3, .int .i64 ap, .int .u64 x, .int .u64 y, .int .u64 x] 70
            rw [World.size_setCell] at hX5
            have hFr := (hFr.setCell (p := ⟨g, (ap).toNat, none⟩) (t3 g (by simp)) (.int .u64 y)).alloc (.cells #[.int .i64 3, .int .i64 ap, .int .u64 x, .int .u64 y, .int .u64 x] 70)
            have kX5 := hX5.cell
            have hX := hX5
            have kH5 := HH.blk.cell
            clear ho
            go_wp2_with (first | (go_at_call 60; go_must (refine HH.all.mono ?_); rintro e w6 ⟨⟨v, rfl, hO⟩, hF2⟩; (have HH := HH.kept0 hF2); (have hG := hG.kept hF2 (by simp)); (have hFr := hFr.trans hF2)) | (go_at_call 32; go_must (refine (same_true HH.short (RdS.of_own hO) (hG.rdsm HM3.out)).mono ?_); rintro e w6 ⟨rfl, hF2⟩; (have HH := HH.kept0 hF2); (have hG := hG.kept hF2 (by simp)); (have hFr := hFr.trans hF2)))
            go_roundw
            case rel => exact ⟨k + 1, ⟨c, _, _⟩, by omega, by simp, HH, hG, HM3, hFr⟩
            case measure => simp [intOf]; omega
          · have h1 : ap < (ws.length : Int) := h1
            obtain ⟨o, ho⟩ : ∃ o, o = wAt ws ap := ⟨_, rfl⟩
            have hne2 : (o == x) = false := beq_eq_false_iff_ne.2 (fun e => hne (ho.symm.trans e))
            clear hne
            have HH : HAt w4 h ab db ⟨c, ws, ⟨3, ap, x, y, o⟩⟩ := HH.to (by subst ho; exact hs)
            have hm1 : (ap : Int) < (m : Int) := by rw [← HM2.out]; exact h1
            clear hA kA nA1 e0 e1 e2 e3
            clear hs
            have hGlt := hG.dat.lt
            have kH := HH.blk.cell
            have hX := Blk.new w4 [.int .i64 3, .int .i64 ap, .int .u64 x, .int .u64 y, .int .u64 o] 70
            have kX := hX.cell
            have hG1 := hG.alloc (.cells #[.int .i64 3, .int .i64 ap, .int .u64 x, .int .u64 y, .int .u64 o] 70)
            have kG : (w4.alloc (.cells #[.int .i64 3, .int .i64 ap, .int .u64 x, .int .u64 y, .int .u64 o] 70)).cell? ⟨g, ap.toNat, none⟩ = some (.int .u64 (wAt ws ap)) := hG1.cell (ap) h0 h1
            rw [← ho] at kG
            have fG := hG1.dat.free
            have HH := HH.alloc (.cells #[.int .i64 3, .int .i64 ap, .int .u64 x, .int .u64 y, .int .u64 o] 70)
            have hFr := hFr.alloc (.cells #[.int .i64 3, .int .i64 ap, .int .u64 x, .int .u64 y, .int .u64 o] 70)
            have hG := hG1
            have HM3 := HM2
            have kH5 := HH.blk.cell
            clear ho
            go_wp2_with (first | (go_at_call 60; go_must (refine HH.all.mono ?_); rintro e w6 ⟨⟨v, rfl, hO⟩, hF2⟩; (have HH := HH.kept0 hF2); (have hG := hG.kept hF2 (by simp)); (have hFr := hFr.trans hF2)) | (go_at_call 32; go_must (refine (same_true HH.short (RdS.of_own hO) (hG.rdsm HM3.out)).mono ?_); rintro e w6 ⟨rfl, hF2⟩; (have HH := HH.kept0 hF2); (have hG := hG.kept hF2 (by simp)); (have hFr := hFr.trans hF2)))
            go_roundw
            case rel => exact ⟨k + 1, ⟨c, _, _⟩, by omega, by simp, HH, hG, HM3, hFr⟩
            case measure => simp [intOf]; omega
        have g3 : (kd == 3) = false := beq_eq_false_iff_ne.2 d3
        by_cases d4 : kd = 4
        · subst d4
          go_wp2_with fail
          go_at_call 59
          refine (clear_any HH).mono ?_
          rintro e w4 ⟨rfl, HH, hF2⟩
          have hA := hA.kept hF2 nA1
          have kA := hA.cell
          have hG := hG.kept hF2 nG0
          have hFr := hFr.trans_new hF2 t1
          clear hF2
          go_wp2_with fail
          go_at_call 57
          refine (hadd_any HH _ _ bx).mono ?_
          rintro e w4 ⟨rfl, HH, hF2⟩
          have hA := hA.kept hF2 nA1
          have kA := hA.cell
          have hG := hG.kept hF2 nG0
          have hFr := hFr.trans_new hF2 t1
          clear hF2
          rcases doIt_add ⟨c, ws, Acc.z⟩ ap x with hs | ⟨h0, h1, hs⟩
          · have h0 : (0 : Int) ≤ 0 := by omega
            have h1 := hpos
            obtain ⟨o, ho⟩ : ∃ o, o = wAt ws 0 := ⟨_, rfl⟩
            have HH : HAt w4 h ab db ⟨c, ws, ⟨0, 0, 0, 0, 0⟩⟩ := HH.to (by subst ho; exact hs)
            have hm1 : (0 : Int) < (m : Int) := by rw [← HM2.out]; exact h1
            clear hA kA nA1 e0 e1 e2 e3
            clear hs
            have hGlt := hG.dat.lt
            have kH := HH.blk.cell
            have hX := Blk.new w4 [.int .i64 0, .int .i64 0, .int .u64 0, .int .u64 0, .int .u64 0] 70
            have kX := hX.cell
            have hG1 := hG.alloc (.cells #[.int .i64 0, .int .i64 0, .int .u64 0, .int .u64 0, .int .u64 0] 70)
            have kG : (w4.alloc (.cells #[.int .i64 0, .int .i64 0, .int .u64 0, .int .u64 0, .int .u64 0] 70)).cell? ⟨g, 0, none⟩ = some (.int .u64 (wAt ws 0)) := hG1.cell (0) h0 h1
            rw [← ho] at kG
            have fG := hG1.dat.free
            have HH := HH.alloc (.cells #[.int .i64 0, .int .i64 0, .int .u64 0, .int .u64 0, .int .u64 0] 70)
            have hFr := hFr.alloc (.cells #[.int .i64 0, .int .i64 0, .int .u64 0, .int .u64 0, .int .u64 0] 70)
            have hG := hG1
            have HM3 := HM2
            have kH5 := HH.blk.cell
            clear ho
            go_wp2_with (first | (go_at_call 60; go_must (refine HH.all.mono ?_); rintro e w6 ⟨⟨v, rfl, hO⟩, hF2⟩; (have HH := HH.kept0 hF2); (have hG := hG.kept hF2 (by simp)); (have hFr := hFr.trans hF2)) | (go_at_call 32; go_must (refine (same_true HH.short (RdS.of_own hO) (hG.rdsm HM3.out)).mono ?_); rintro e w6 ⟨rfl, hF2⟩; (have HH := HH.kept0 hF2); (have hG := hG.kept hF2 (by simp)); (have hFr := hFr.trans hF2)))
            go_roundw
            case rel => exact ⟨k + 1, ⟨c, _, _⟩, by omega, by simp, HH, hG, HM3, hFr⟩
            case measure => simp [intOf]; omega
          · have h1 : ap < (ws.length : Int) := h1
            obtain ⟨o, ho⟩ : ∃ o, o = wAt ws ap := ⟨_, rfl⟩
            have hnew := addW_bd o x
            have HH : HAt w4 h ab db ⟨c, ws.set ap.toNat (addW o x), ⟨4, ap, x, 0, o⟩⟩ := HH.to (by subst ho; exact hs)
            have hm1 : (ap : Int) < (m : Int) := by rw [← HM2.out]; exact h1
            clear hA kA nA1 e0 e1 e2 e3
            clear hs
            have hGlt := hG.dat.lt
            have kH := HH.blk.cell
            have hX := Blk.new w4 [.int .i64 4, .int .i64 ap, .int .u64 x, .int .u64 0, .int .u64 o] 70
            have kX := hX.cell
            have hG1 := hG.alloc (.cells #[.int .i64 4, .int .i64 ap, .int .u64 x, .int .u64 0, .int .u64 o] 70)
            have kG : (w4.alloc (.cells #[.int .i64 4, .int .i64 ap, .int .u64 x, .int .u64 0, .int .u64 o] 70)).cell? ⟨g, ap.toNat, none⟩ = some (.int .u64 (wAt ws ap)) := hG1.cell (ap) h0 h1
            rw [← ho] at kG
            have fG := hG1.dat.free
            have HM3 := hid (show (ws.set (ap).toNat (addW o x)).length = m by rw [List.length_set]; exact HM2.out)
            have HH := (HH.other (p := ⟨g, (ap).toNat, none⟩) nG1 nG2 nG3 (.int .u64 (addW o x))).alloc (.cells #[.int .i64 4, .int .i64 ap, .int .u64 x, .int .u64 0, .int .u64 o] 70)
            have hG := (hG.set (ap).toNat (by omega) (addW o x) hnew).alloc (.cells #[.int .i64 4, .int .i64 ap, .int .u64 x, .int .u64 0, .int .u64 o] 70)
            have hX5 := Blk.new (w4.setCell ⟨g, (ap).toNat, none⟩ (.int .u64 (addW o x))) [.int .i64 4, .int .i64 ap, .int .u64 x, .int .u64 0, .int .u64 o] 70
            rw [World.size_setCell] at hX5
            have hFr := (hFr.setCell (p := ⟨g, (ap).toNat, none⟩) (t3 g (by simp)) (.int .u64 (addW o x))).alloc (.cells #[.int .i64 4, .int .i64 ap, .int .u64 x, .int .u64 0, .int .u64 o] 70)
            have kX5 := hX5.cell
            have hX := hX5
            have kH5 := HH.blk.cell
            clear ho
            have hwr : IntKind.u64.wrap (o + x) = addW o x := by rw [IntKind.wrap_u64]; unfold addW; omega
            have HH := HH.drew
            have hG := hG.drew
            have hX := hX.drew
            have kX5 := hX.cell
            have kH5 := HH.blk.cell
            have hFr := hFr.drew
            go_wp2_with fail
            go_region_with (fail)
            all_goals
              go_wp2_with (first | (go_at_call 60; go_must (refine HH.all.mono ?_); rintro e w6 ⟨⟨v, rfl, hO⟩, hF2⟩; (have HH := HH.kept0 hF2); (have hG := hG.kept hF2 (by simp)); (have hFr := hFr.trans hF2)) | (go_at_call 32; go_must (refine (same_true HH.short (RdS.of_own hO) (hG.rdsm HM3.out)).mono ?_); rintro e w6 ⟨rfl, hF2⟩; (have HH := HH.kept0 hF2); (have hG := hG.kept hF2 (by simp)); (have hFr := hFr.trans hF2)))
              go_roundw
              case rel => exact ⟨k + 1, ⟨c, _, _⟩, by omega, by simp, HH, hG, HM3, hFr⟩
              case measure => simp [intOf]; omega
        have g4 : (kd == 4) = false := beq_eq_false_iff_ne.2 d4
        go_wp2_with fail
        go_at_call 59
        refine (clear_any HH).mono ?_
        rintro e w4 ⟨rfl, HH, hF2⟩
        have hA := hA.kept hF2 nA1
        have kA := hA.cell
        have hG := hG.kept hF2 nG0
        have hFr := hFr.trans_new hF2 t1
        clear hF2
        have h0 : (0 : Int) ≤ 0 := by omega
        have h1 := hpos
        obtain ⟨o, ho⟩ : ∃ o, o = wAt ws 0 := ⟨_, rfl⟩
        have HH : HAt w4 h ab db ⟨c, ws, ⟨0, 0, 0, 0, 0⟩⟩ := HH
        have hm1 : (0 : Int) < (m : Int) := by rw [← HM2.out]; exact h1
        clear nA1 e0 e1 e2 e3
        have hGlt := hG.dat.lt
        have kH := HH.blk.cell
        have hX := Blk.new w4 [.int .i64 0, .int .i64 0, .int .u64 0, .int .u64 0, .int .u64 0] 70
        have kX := hX.cell
        have hG1 := hG.alloc (.cells #[.int .i64 0, .int .i64 0, .int .u64 0, .int .u64 0, .int .u64 0] 70)
        have kG : (w4.alloc (.cells #[.int .i64 0, .int .i64 0, .int .u64 0, .int .u64 0, .int .u64 0] 70)).cell? ⟨g, 0, none⟩ = some (.int .u64 (wAt ws 0)) := hG1.cell (0) h0 h1
        rw [← ho] at kG
        have fG := hG1.dat.free
        have HH := HH.alloc (.cells #[.int .i64 0, .int .i64 0, .int .u64 0, .int .u64 0, .int .u64 0] 70)
        have hFr := hFr.alloc (.cells #[.int .i64 0, .int .i64 0, .int .u64 0, .int .u64 0, .int .u64 0] 70)
        have hG := hG1
        have HM3 := HM2
        have kH5 := HH.blk.cell
        clear ho
        go_wp2_with (first | (go_at_call 60; go_must (refine HH.all.mono ?_); rintro e w6 ⟨⟨v, rfl, hO⟩, hF2⟩; (have HH := HH.kept0 hF2); (have hG := hG.kept hF2 (by simp)); (have hFr := hFr.trans hF2)) | (go_at_call 32; go_must (refine (same_true HH.short (RdS.of_own hO) (hG.rdsm HM3.out)).mono ?_); rintro e w6 ⟨rfl, hF2⟩; (have HH := HH.kept0 hF2); (have hG := hG.kept hF2 (by simp)); (have hFr := hFr.trans hF2)))
        go_roundw
        case rel => exact ⟨k + 1, ⟨c, _, _⟩, by omega, by simp, HH, hG, HM3, hFr⟩
        case measure => simp [intOf]; omega
      · go_wp2
        go_ret
        exact ⟨rfl, hFr⟩
  · have hr : c.right = false := by simpa using hr
    have HN := hid (fun W => new_bad (w := W) c hr)
    have HG := hid (fun W => great_any c W)
    obtain ⟨z, hz⟩ : ∃ z, z = c.great := ⟨_, rfl⟩
    rw [← hz] at HG
    clear hr hz
    by_cases hn2 : (60 : Int) < (n : Int)
    all_goals
      cases z
      all_goals
        obtain ⟨cc, cm, cr, cg⟩ := c
        go_enter Try.func11, Try.ntmps11
        have hB := Blk.new w [.int .i64 cc, .int .i64 cm, .int .i64 cr, .int .i64 cg] 33
        have kB := hB.cell
        have hFF := (Fr.refl [] w).alloc (.cells #[.int .i64 cc, .int .i64 cm, .int .i64 cr, .int .i64 cg] 33)
        go_wp2_with (first | (go_at_call 48; with_reducible refine (awake07_any _).mono ?_; rintro e w2 ⟨rfl, hF2⟩; (have hB := hB.kept hF2 (by simp)); (have kB := hB.cell); (have hFF := hFF.trans hF2)) | (go_at_call 61; refine (HN.out _).mono ?_; rintro e w2 ⟨rfl, hF2⟩; (have hB := hB.kept hF2 (by simp)); (have kB := hB.cell); (have hFF := hFF.trans hF2)) | (go_at_call 22; refine (HG.out _).mono ?_; rintro e w2 ⟨rfl, hF2⟩; (have hB := hB.kept hF2 (by simp)); (have kB := hB.cell); (have hFF := hFF.trans hF2)))
        go_ret
        exact ⟨rfl, hFF⟩

end Go.Proofs.Ytciojmdppfgelaa
