/- mudlarklaw07.HandPlays: the walk. -/
import Derived.Test.YtciojmdppfgelaaHandFieldsWalk
import Derived.Test.YtciojmdppfgelaaActs
import Derived.Test.YtciojmdppfgelaaHandMore
namespace Go.Proofs.Ytciojmdppfgelaa
open Go.RowKit
set_option linter.unusedVariables false
set_option linter.unusedSimpArgs false

set_option maxRecDepth 100000 in
set_option maxHeartbeats 4000000 in
theorem handPlays_any (c : Cfg) (v : Value) (l : List Int) (u : Value) (n : Nat) (w : World) (hv : RdS w v l.length (u64s l)) (hl : l.length ≤ 35184372088832) (hwf : ∀ y, y ∈ l → 0 ≤ y ∧ y < 18446744073709551616) (hu : ActsAt w u n) :
    Calls Try.prog 10 #[c.val, v, u] w fun e w' => e = .returned (.bool true) ∧ Fr [] w w' := by
  have HG := fun g (hg : c.great = g) => hid (fun W => by have := great_any c W; rw [hg] at this; exact this)
  obtain ⟨va, vc, rfl, hvc⟩ := hv.elim
  obtain ⟨ua, uc, rfl, huc⟩ := hu
  clear hvc
  have HU := hid huc
  clear huc
  by_cases hg : c.great = true
  · have HG := HG true hg
    clear hg hv hwf
    obtain ⟨cc, cm, cr, cg⟩ := c
    go_enter Try.func10, Try.ntmps10
    have hB := Blk.new w [.int .i64 cc, .int .i64 cm, .int .i64 cr, .int .i64 cg] 33
    have kB := hB.cell
    have hFF := (Fr.refl [] w).alloc (.cells #[.int .i64 cc, .int .i64 cm, .int .i64 cr, .int .i64 cg] 33)
    go_wp2_with (first | (go_at_call 48; with_reducible refine (awake07_any _).mono ?_; rintro e w2 ⟨rfl, hF2⟩; (have hB := hB.kept hF2 (by simp)); (have kB := hB.cell); (have hFF := hFF.trans hF2)) | (go_at_call 22; with_reducible refine (HG.out _).mono ?_; rintro e w2 ⟨rfl, hF2⟩; (have hB := hB.kept hF2 (by simp)); (have kB := hB.cell); (have hFF := hFF.trans hF2)))
    go_ret
    exact ⟨rfl, hFF⟩
  have hg0 : c.great = false := by simpa using hg
  have HG := HG false hg0
  clear hg
  by_cases hn : 60 < n
  · have hn2 : (60 : Int) < (n : Int) := by omega
    clear hv hwf hg0
    obtain ⟨cc, cm, cr, cg⟩ := c
    go_enter Try.func10, Try.ntmps10
    have hB := Blk.new w [.int .i64 cc, .int .i64 cm, .int .i64 cr, .int .i64 cg] 33
    have kB := hB.cell
    have hFF := (Fr.refl [] w).alloc (.cells #[.int .i64 cc, .int .i64 cm, .int .i64 cr, .int .i64 cg] 33)
    go_wp2_with (first | (go_at_call 48; with_reducible refine (awake07_any _).mono ?_; rintro e w2 ⟨rfl, hF2⟩; (have hB := hB.kept hF2 (by simp)); (have kB := hB.cell); (have hFF := hFF.trans hF2)) | (go_at_call 22; with_reducible refine (HG.out _).mono ?_; rintro e w2 ⟨rfl, hF2⟩; (have hB := hB.kept hF2 (by simp)); (have kB := hB.cell); (have hFF := hFF.trans hF2)))
    go_ret
    exact ⟨rfl, hFF⟩
  have hn2 : ¬ (60 : Int) < (n : Int) := by omega
  by_cases hr : c.right = true
  · have hR := (c.right_iff).1 hr
    have HRt := hid (fun W => rRight_any c W true hr)
    have HWd := hid (fun W => rWords_any hR W)
    have hw := hR.words_pos
    by_cases hlen : (l.length : Int) = c.words
    · rw [← hlen] at HWd hw
      have HFm := fun W (f : Fr [] w W) => hid (from_ok (w := W) hR _ l (hv.kept0 f) hlen hwf)
      have HCp := fun W (f : Fr [] w W) => hid (rCopy_pos (w := W) (hv.kept0 f) (by omega) (by omega) hwf)
      have hne : ((l.length : Int) != (l.length : Int)) = false := by simp
      have HL := hid hlen
      have HK := hid hR
      clear hlen hwf hg0 hv hr hR hw
      obtain ⟨cc, cm, cr, cg⟩ := c
      go_enter Try.func10, Try.ntmps10
      have hB := Blk.new w [.int .i64 cc, .int .i64 cm, .int .i64 cr, .int .i64 cg] 33
      have kB := hB.cell
      have hFF := (Fr.refl [] w).alloc (.cells #[.int .i64 cc, .int .i64 cm, .int .i64 cr, .int .i64 cg] 33)
      go_wp2_with (first | (go_at_call 48; with_reducible refine (awake07_any _).mono ?_; rintro e w2 ⟨rfl, hF2⟩; (have hB := hB.kept hF2 (by simp)); (have kB := hB.cell); (have hFF := hFF.trans hF2)) | (go_at_call 22; with_reducible refine (HG.out _).mono ?_; rintro e w2 ⟨rfl, hF2⟩; (have hB := hB.kept hF2 (by simp)); (have kB := hB.cell); (have hFF := hFF.trans hF2)) | (go_at_call 35; refine (HFm _ hFF).out.mono ?_; rintro e w2 ⟨⟨h, ab, db, rfl, HH, q1, q2, q3⟩, hF2⟩; (have q1 := Nat.le_trans hFF.size q1); (have q2 := Nat.le_trans hFF.size q2); (have q3 := Nat.le_trans hFF.size q3); (have kH := HH.blk.cell); (have hB := hB.kept hF2 (by simp)); (have kB := hB.cell); (have hFF := hFF.trans hF2)) | (go_at_call 49; refine (HRt.out _).mono ?_; rintro e w2 ⟨rfl, hF2⟩; (have HH := HH.kept0 hF2); (have kH := HH.blk.cell); (have hB := hB.kept hF2 (by simp)); (have kB := hB.cell); (have hFF := hFF.trans hF2)) | (go_at_call 50; refine (HWd.out _).mono ?_; rintro e w2 ⟨rfl, hF2⟩; (have HH := HH.kept0 hF2); (have kH := HH.blk.cell); (have hB := hB.kept hF2 (by simp)); (have kB := hB.cell); (have hFF := hFF.trans hF2)))
      have l1 := HH.blk.lt
      have l2 := HH.ar.hdr.lt
      have l3 := HH.ar.dat.lt
      have HH := HH.drew
      have hB := hB.drew
      have hFF0 := hFF
      have hFF := hFF.drew
      go_region_held3 (fun w' => w'.cell? ⟨w.heap.size, 0, none⟩ = some (.int .i64 cc) ∧ w'.cell? ⟨w.heap.size, 1, none⟩ = some (.int .i64 cm) ∧ w'.cell? ⟨w.heap.size, 2, none⟩ = some (.int .i64 cr) ∧ w'.cell? ⟨w.heap.size, 3, none⟩ = some (.int .i64 cg)) (go_keep)
        (first | (go_at_call 27; refine (HCp _ hFF).out.mono ?_; rintro e w4 ⟨⟨rd, cap, ext, rfl, hO, q4⟩, hF2⟩; (have hB := hB.kept hF2 (by simp)); (have kB := hB.cell); (have hFF := hFF.trans hF2); (have HH := HH.kept0 hF2)))
      go_wp2_with fail
      have s4 := hF2.size
      have s0 := hFF0.size
      simp only [World.size_drew] at q4 s4
      have l4 := hO.dat.lt
      obtain ⟨r, hr⟩ : ∃ r, r = w4.heap.size := ⟨_, rfl⟩
      have HR : RAt (w4.alloc (.cells #[.int .i64 cc, .int .i64 cm, .int .i64 cr, .int .i64 cg, .slice (some ⟨rd, 0, none⟩) l.length cap, .int .i64 0, .int .i64 0, .int .u64 0, .int .u64 0, .int .u64 0] 88)) r rd cap ext ⟨⟨cc, cm, cr, cg⟩, l, Acc.z⟩ := by
        rw [hr]
        exact ⟨Blk.new _ _ _, hO.alloc _, by omega, HK.out, HL.out⟩
      have HH := HH.alloc (.cells #[.int .i64 cc, .int .i64 cm, .int .i64 cr, .int .i64 cg, .slice (some ⟨rd, 0, none⟩) l.length cap, .int .i64 0, .int .i64 0, .int .u64 0, .int .u64 0, .int .u64 0] 88)
      have hFF := hFF.alloc (.cells #[.int .i64 cc, .int .i64 cm, .int .i64 cr, .int .i64 cg, .slice (some ⟨rd, 0, none⟩) l.length cap, .int .i64 0, .int .i64 0, .int .u64 0, .int .u64 0, .int .u64 0] 88)
      have nR : r ∉ [h, db] := by simp; omega
      have nRd : rd ∉ [h, db] := by simp; omega
      have nH : h ∉ [r, rd] := by simp; omega
      have nAb : ab ∉ [r, rd] := by simp; omega
      have nDb : db ∉ [r, rd] := by simp; omega
      have nR1 : h ≠ r := by omega
      have nR2 : ab ≠ r := by omega
      have nR3 : db ≠ r := by omega
      have t1 : ∀ i, i ∈ [h, db] → i < w.heap.size → i ∈ ([] : List Nat) := by intro i m l; simp at m; omega
      have t2 : ∀ i, i ∈ [r, rd] → i < w.heap.size → i ∈ ([] : List Nat) := by intro i m l; simp at m; omega
      rw [← hr]
      clear hr q1 q2 q3 q4 l1 l2 l3 l4 s4 s0 hB kB kH HCp HG HRt HWd
      go_loopw [10] (fun i wr => ∃ (k : Nat) (s : HS), k ≤ n ∧ i = .int .i64 k ∧ HAt wr h ab db s ∧ RAt wr r rd cap ext s ∧ Fr [] w wr) (fun i _ => n - (intOf i).toNat)
      case atStart => exact ⟨0, _, by omega, rfl, HH, HR, hFF⟩
      case round =>
        obtain ⟨k, s, hk, rfl, HH, HR, hFr⟩ := hrel
        by_cases hlt : k < n
        · obtain ⟨bb, oo, rfl, hbb, hcs⟩ := HU.out (by omega)
          obtain ⟨⟨kd, ap, x, y⟩, e0, e1, e2, e3, bx, byy, b1, b2⟩ := hcs k hlt
          simp only at e0 e1 e2 e3 bx byy b1 b2
          have e0 := (hFr.cell hbb (by simp)).trans e0
          have e1 := (hFr.cell hbb (by simp)).trans e1
          have e2 := (hFr.cell hbb (by simp)).trans e2
          have e3 := (hFr.cell hbb (by simp)).trans e3
          have l1 := HH.blk.lt
          have l3 := HH.ar.dat.lt
          have l4 := HR.blk.lt
          have l5 := HR.ar.dat.lt
          have hA := Blk.new wr [.int .i64 kd, .int .i64 ap, .int .u64 x, .int .u64 y] 90
          have HH := HH.alloc (.cells #[.int .i64 kd, .int .i64 ap, .int .u64 x, .int .u64 y] 90)
          have HR := HR.alloc (.cells #[.int .i64 kd, .int .i64 ap, .int .u64 x, .int .u64 y] 90)
          have hFr := hFr.alloc (.cells #[.int .i64 kd, .int .i64 ap, .int .u64 x, .int .u64 y] 90)
          have kA := hA.cell
          have nA1 : wr.heap.size ∉ [h, db] := by have := l1; have := l3; simp; omega
          have nA2 : wr.heap.size ∉ [r, rd] := by have := l4; have := l5; simp; omega
          clear hcs hbb l1 l3 l4 l5
          by_cases d1 : kd = 1
          · subst d1
            go_wp2_with fail
            have HH := HH.drew
            have HR := HR.drew
            have hFr := hFr.drew
            have hA := hA.drew
            clear kA
            go_region_held3 (fun w' => w'.cell? ⟨wr.heap.size, 0, none⟩ = some (.int .i64 1) ∧ w'.cell? ⟨wr.heap.size, 1, none⟩ = some (.int .i64 ap) ∧ w'.cell? ⟨wr.heap.size, 2, none⟩ = some (.int .u64 x) ∧ w'.cell? ⟨wr.heap.size, 3, none⟩ = some (.int .u64 y)) (go_keep)
              (first | (go_at_call 51; with_reducible refine (hload_any HH _).mono ?_; rintro e w4 ⟨rfl, HH, hF2⟩; (have hA := hA.kept hF2 nA1); (have kA := hA.cell); (have HR := HR.kept hF2 nR nRd); (have hFr := hFr.trans_new hF2 t1)) | (go_at_call 52; with_reducible refine (rhload_any HR _).mono ?_; rintro e w4 ⟨rfl, HR, hF2⟩; (have hA := hA.kept hF2 nA2); (have kA := hA.cell); (have HH := HH.kept hF2 nH nAb nDb); (have hFr := hFr.trans_new hF2 t2)))
            generalize s.doIt (aLoad ap) = s2 at HH HR
            have kH := HH.blk.cell
            have kR := HR.blk.cell
            go_wp2_with fail
            have HH := HH.drew
            have HR := HR.drew
            have hFr := hFr.drew
            try clear hA
            try clear kA
            clear nA1 nA2
            obtain ⟨cs, ws, ⟨ak, ai, ax, ay, ao⟩⟩ := s2
            go_region_held3 (fun w' => w'.cell? ⟨h, 0, none⟩ = some (.pointer (some ⟨ab, 0, none⟩)) ∧ w'.cell? ⟨r, 4, none⟩ = some (.slice (some ⟨rd, 0, none⟩) ws.length cap) ∧ w'.cell? ⟨h, 5, none⟩ = some (.int .i64 ak) ∧ w'.cell? ⟨h, 6, none⟩ = some (.int .i64 ai) ∧ w'.cell? ⟨h, 7, none⟩ = some (.int .u64 ax) ∧ w'.cell? ⟨h, 8, none⟩ = some (.int .u64 ay) ∧ w'.cell? ⟨h, 9, none⟩ = some (.int .u64 ao) ∧ w'.cell? ⟨r, 5, none⟩ = some (.int .i64 ak) ∧ w'.cell? ⟨r, 6, none⟩ = some (.int .i64 ai) ∧ w'.cell? ⟨r, 7, none⟩ = some (.int .u64 ax) ∧ w'.cell? ⟨r, 8, none⟩ = some (.int .u64 ay) ∧ w'.cell? ⟨r, 9, none⟩ = some (.int .u64 ao)) (go_keep)
              (first | (go_at_call 60; refine HH.all.mono ?_; rintro e w6 ⟨⟨v, rfl, hO⟩, hF2⟩; (have HH := HH.kept0 hF2); (have HR := HR.kept0 hF2); (have kH := HH.blk.cell); (have kR := HR.blk.cell); (have hFr := hFr.trans hF2)) | (go_at_call 32; refine (same_true HH.short (RdS.of_own hO) HR.rds).mono ?_; rintro e w6 ⟨rfl, hF2⟩; (have HH := HH.kept0 hF2); (have HR := HR.kept0 hF2); (have kH := HH.blk.cell); (have kR := HR.blk.cell); (have hFr := hFr.trans hF2)))
            go_wp2_with fail
            go_roundw
            case rel => exact ⟨k + 1, _, by omega, by simp, HH, HR, hFr⟩
            case measure => simp [intOf]; omega
          have g1 : (kd == 1) = false := beq_eq_false_iff_ne.2 d1
          by_cases d2 : kd = 2
          · subst d2
            have g2 : ((2 : Int) == 2) = true := rfl
            go_wp2_with (first | (go_at_call 53; with_reducible refine (hstore_any HH _ _ bx).mono ?_; rintro e w4 ⟨rfl, HH, hF2⟩; (have hA := hA.kept hF2 nA1); (have kA := hA.cell); (have HR := HR.kept hF2 nR nRd); (have hFr := hFr.trans_new hF2 t1)) | (go_at_call 54; with_reducible refine (rhstore_any HR _ _ bx).mono ?_; rintro e w4 ⟨rfl, HR, hF2⟩; (have hA := hA.kept hF2 nA2); (have kA := hA.cell); (have HH := HH.kept hF2 nH nAb nDb); (have hFr := hFr.trans_new hF2 t2)))
            generalize s.doIt (aStore ap x) = s2 at HH HR
            have kH := HH.blk.cell
            have kR := HR.blk.cell
            try go_wp2_with fail
            have HH := HH.drew
            have HR := HR.drew
            have hFr := hFr.drew
            try clear hA
            try clear kA
            clear nA1 nA2
            obtain ⟨cs, ws, ⟨ak, ai, ax, ay, ao⟩⟩ := s2
            go_region_held3 (fun w' => w'.cell? ⟨h, 0, none⟩ = some (.pointer (some ⟨ab, 0, none⟩)) ∧ w'.cell? ⟨r, 4, none⟩ = some (.slice (some ⟨rd, 0, none⟩) ws.length cap) ∧ w'.cell? ⟨h, 5, none⟩ = some (.int .i64 ak) ∧ w'.cell? ⟨h, 6, none⟩ = some (.int .i64 ai) ∧ w'.cell? ⟨h, 7, none⟩ = some (.int .u64 ax) ∧ w'.cell? ⟨h, 8, none⟩ = some (.int .u64 ay) ∧ w'.cell? ⟨h, 9, none⟩ = some (.int .u64 ao) ∧ w'.cell? ⟨r, 5, none⟩ = some (.int .i64 ak) ∧ w'.cell? ⟨r, 6, none⟩ = some (.int .i64 ai) ∧ w'.cell? ⟨r, 7, none⟩ = some (.int .u64 ax) ∧ w'.cell? ⟨r, 8, none⟩ = some (.int .u64 ay) ∧ w'.cell? ⟨r, 9, none⟩ = some (.int .u64 ao)) (go_keep)
              (first | (go_at_call 60; refine HH.all.mono ?_; rintro e w6 ⟨⟨v, rfl, hO⟩, hF2⟩; (have HH := HH.kept0 hF2); (have HR := HR.kept0 hF2); (have kH := HH.blk.cell); (have kR := HR.blk.cell); (have hFr := hFr.trans hF2)) | (go_at_call 32; refine (same_true HH.short (RdS.of_own hO) HR.rds).mono ?_; rintro e w6 ⟨rfl, hF2⟩; (have HH := HH.kept0 hF2); (have HR := HR.kept0 hF2); (have kH := HH.blk.cell); (have kR := HR.blk.cell); (have hFr := hFr.trans hF2)))
            go_wp2_with fail
            go_roundw
            case rel => exact ⟨k + 1, _, by omega, by simp, HH, HR, hFr⟩
            case measure => simp [intOf]; omega
          have g2 : (kd == 2) = false := beq_eq_false_iff_ne.2 d2
          by_cases d3 : kd = 3
          · subst d3
            go_wp2_with fail
            have HH := HH.drew
            have HR := HR.drew
            have hFr := hFr.drew
            have hA := hA.drew
            clear kA
            go_region_held3 (fun w' => w'.cell? ⟨wr.heap.size, 0, none⟩ = some (.int .i64 3) ∧ w'.cell? ⟨wr.heap.size, 1, none⟩ = some (.int .i64 ap) ∧ w'.cell? ⟨wr.heap.size, 2, none⟩ = some (.int .u64 x) ∧ w'.cell? ⟨wr.heap.size, 3, none⟩ = some (.int .u64 y)) (go_keep)
              (first | (go_at_call 55; with_reducible refine (hcas_any HH _ _ _ bx byy).mono ?_; rintro e w4 ⟨rfl, HH, hF2⟩; (have hA := hA.kept hF2 nA1); (have kA := hA.cell); (have HR := HR.kept hF2 nR nRd); (have hFr := hFr.trans_new hF2 t1)) | (go_at_call 56; with_reducible refine (rhcas_any HR _ _ _ bx byy).mono ?_; rintro e w4 ⟨rfl, HR, hF2⟩; (have hA := hA.kept hF2 nA2); (have kA := hA.cell); (have HH := HH.kept hF2 nH nAb nDb); (have hFr := hFr.trans_new hF2 t2)))
            generalize s.doIt (aCas ap x y) = s2 at HH HR
            have kH := HH.blk.cell
            have kR := HR.blk.cell
            go_wp2_with fail
            have HH := HH.drew
            have HR := HR.drew
            have hFr := hFr.drew
            try clear hA
            try clear kA
            clear nA1 nA2
            obtain ⟨cs, ws, ⟨ak, ai, ax, ay, ao⟩⟩ := s2
            go_region_held3 (fun w' => w'.cell? ⟨h, 0, none⟩ = some (.pointer (some ⟨ab, 0, none⟩)) ∧ w'.cell? ⟨r, 4, none⟩ = some (.slice (some ⟨rd, 0, none⟩) ws.length cap) ∧ w'.cell? ⟨h, 5, none⟩ = some (.int .i64 ak) ∧ w'.cell? ⟨h, 6, none⟩ = some (.int .i64 ai) ∧ w'.cell? ⟨h, 7, none⟩ = some (.int .u64 ax) ∧ w'.cell? ⟨h, 8, none⟩ = some (.int .u64 ay) ∧ w'.cell? ⟨h, 9, none⟩ = some (.int .u64 ao) ∧ w'.cell? ⟨r, 5, none⟩ = some (.int .i64 ak) ∧ w'.cell? ⟨r, 6, none⟩ = some (.int .i64 ai) ∧ w'.cell? ⟨r, 7, none⟩ = some (.int .u64 ax) ∧ w'.cell? ⟨r, 8, none⟩ = some (.int .u64 ay) ∧ w'.cell? ⟨r, 9, none⟩ = some (.int .u64 ao)) (go_keep)
              (first | (go_at_call 60; refine HH.all.mono ?_; rintro e w6 ⟨⟨v, rfl, hO⟩, hF2⟩; (have HH := HH.kept0 hF2); (have HR := HR.kept0 hF2); (have kH := HH.blk.cell); (have kR := HR.blk.cell); (have hFr := hFr.trans hF2)) | (go_at_call 32; refine (same_true HH.short (RdS.of_own hO) HR.rds).mono ?_; rintro e w6 ⟨rfl, hF2⟩; (have HH := HH.kept0 hF2); (have HR := HR.kept0 hF2); (have kH := HH.blk.cell); (have kR := HR.blk.cell); (have hFr := hFr.trans hF2)))
            go_wp2_with fail
            go_roundw
            case rel => exact ⟨k + 1, _, by omega, by simp, HH, HR, hFr⟩
            case measure => simp [intOf]; omega
          have g3 : (kd == 3) = false := beq_eq_false_iff_ne.2 d3
          by_cases d4 : kd = 4
          · subst d4
            go_wp2_with fail
            have HH := HH.drew
            have HR := HR.drew
            have hFr := hFr.drew
            have hA := hA.drew
            clear kA
            go_region_held3 (fun w' => w'.cell? ⟨wr.heap.size, 0, none⟩ = some (.int .i64 4) ∧ w'.cell? ⟨wr.heap.size, 1, none⟩ = some (.int .i64 ap) ∧ w'.cell? ⟨wr.heap.size, 2, none⟩ = some (.int .u64 x) ∧ w'.cell? ⟨wr.heap.size, 3, none⟩ = some (.int .u64 y)) (go_keep)
              (first | (go_at_call 57; with_reducible refine (hadd_any HH _ _ bx).mono ?_; rintro e w4 ⟨rfl, HH, hF2⟩; (have hA := hA.kept hF2 nA1); (have kA := hA.cell); (have HR := HR.kept hF2 nR nRd); (have hFr := hFr.trans_new hF2 t1)) | (go_at_call 58; with_reducible refine (rhadd_any HR _ _ bx).mono ?_; rintro e w4 ⟨rfl, HR, hF2⟩; (have hA := hA.kept hF2 nA2); (have kA := hA.cell); (have HH := HH.kept hF2 nH nAb nDb); (have hFr := hFr.trans_new hF2 t2)))
            generalize s.doIt (aAdd ap x) = s2 at HH HR
            have kH := HH.blk.cell
            have kR := HR.blk.cell
            go_wp2_with fail
            have HH := HH.drew
            have HR := HR.drew
            have hFr := hFr.drew
            try clear hA
            try clear kA
            clear nA1 nA2
            obtain ⟨cs, ws, ⟨ak, ai, ax, ay, ao⟩⟩ := s2
            go_region_held3 (fun w' => w'.cell? ⟨h, 0, none⟩ = some (.pointer (some ⟨ab, 0, none⟩)) ∧ w'.cell? ⟨r, 4, none⟩ = some (.slice (some ⟨rd, 0, none⟩) ws.length cap) ∧ w'.cell? ⟨h, 5, none⟩ = some (.int .i64 ak) ∧ w'.cell? ⟨h, 6, none⟩ = some (.int .i64 ai) ∧ w'.cell? ⟨h, 7, none⟩ = some (.int .u64 ax) ∧ w'.cell? ⟨h, 8, none⟩ = some (.int .u64 ay) ∧ w'.cell? ⟨h, 9, none⟩ = some (.int .u64 ao) ∧ w'.cell? ⟨r, 5, none⟩ = some (.int .i64 ak) ∧ w'.cell? ⟨r, 6, none⟩ = some (.int .i64 ai) ∧ w'.cell? ⟨r, 7, none⟩ = some (.int .u64 ax) ∧ w'.cell? ⟨r, 8, none⟩ = some (.int .u64 ay) ∧ w'.cell? ⟨r, 9, none⟩ = some (.int .u64 ao)) (go_keep)
              (first | (go_at_call 60; refine HH.all.mono ?_; rintro e w6 ⟨⟨v, rfl, hO⟩, hF2⟩; (have HH := HH.kept0 hF2); (have HR := HR.kept0 hF2); (have kH := HH.blk.cell); (have kR := HR.blk.cell); (have hFr := hFr.trans hF2)) | (go_at_call 32; refine (same_true HH.short (RdS.of_own hO) HR.rds).mono ?_; rintro e w6 ⟨rfl, hF2⟩; (have HH := HH.kept0 hF2); (have HR := HR.kept0 hF2); (have kH := HH.blk.cell); (have kR := HR.blk.cell); (have hFr := hFr.trans hF2)))
            go_wp2_with fail
            go_roundw
            case rel => exact ⟨k + 1, _, by omega, by simp, HH, HR, hFr⟩
            case measure => simp [intOf]; omega
          have g4 : (kd == 4) = false := beq_eq_false_iff_ne.2 d4
          go_wp2_with (first | (go_at_call 59; with_reducible refine (clear_any HH).mono ?_; rintro e w4 ⟨rfl, HH, hF2⟩; (have hA := hA.kept hF2 nA1); (have kA := hA.cell); (have HR := HR.kept hF2 nR nRd); (have kR := HR.blk.cell); (have fR := HR.blk.free); (have hFr := hFr.trans_new hF2 t1)))
          have HR := HR.zero
          have HH := ((((HH.other (p := ⟨r, 5, none⟩) nR1 nR2 nR3 (.int .i64 0)).other (p := ⟨r, 6, none⟩) nR1 nR2 nR3 (.int .i64 0)).other (p := ⟨r, 7, none⟩) nR1 nR2 nR3 (.int .u64 0)).other (p := ⟨r, 8, none⟩) nR1 nR2 nR3 (.int .u64 0)).other (p := ⟨r, 9, none⟩) nR1 nR2 nR3 (.int .u64 0)
          have hFr := ((((hFr.setCell (p := ⟨r, 5, none⟩) (t2 r (by simp)) (.int .i64 0)).setCell (p := ⟨r, 6, none⟩) (t2 r (by simp)) (.int .i64 0)).setCell (p := ⟨r, 7, none⟩) (t2 r (by simp)) (.int .u64 0)).setCell (p := ⟨r, 8, none⟩) (t2 r (by simp)) (.int .u64 0)).setCell (p := ⟨r, 9, none⟩) (t2 r (by simp)) (.int .u64 0)
          clear hA kA kR fR
          generalize (⟨s.c, s.ws, Acc.z⟩ : HS) = s2 at HH HR
          have kH := HH.blk.cell
          have kR := HR.blk.cell
          have HH := HH.drew
          have HR := HR.drew
          have hFr := hFr.drew
          try clear hA
          try clear kA
          clear nA1 nA2
          obtain ⟨cs, ws, ⟨ak, ai, ax, ay, ao⟩⟩ := s2
          go_region_held3 (fun w' => w'.cell? ⟨h, 0, none⟩ = some (.pointer (some ⟨ab, 0, none⟩)) ∧ w'.cell? ⟨r, 4, none⟩ = some (.slice (some ⟨rd, 0, none⟩) ws.length cap) ∧ w'.cell? ⟨h, 5, none⟩ = some (.int .i64 ak) ∧ w'.cell? ⟨h, 6, none⟩ = some (.int .i64 ai) ∧ w'.cell? ⟨h, 7, none⟩ = some (.int .u64 ax) ∧ w'.cell? ⟨h, 8, none⟩ = some (.int .u64 ay) ∧ w'.cell? ⟨h, 9, none⟩ = some (.int .u64 ao) ∧ w'.cell? ⟨r, 5, none⟩ = some (.int .i64 ak) ∧ w'.cell? ⟨r, 6, none⟩ = some (.int .i64 ai) ∧ w'.cell? ⟨r, 7, none⟩ = some (.int .u64 ax) ∧ w'.cell? ⟨r, 8, none⟩ = some (.int .u64 ay) ∧ w'.cell? ⟨r, 9, none⟩ = some (.int .u64 ao)) (go_keep)
            (first | (go_at_call 60; refine HH.all.mono ?_; rintro e w6 ⟨⟨v, rfl, hO⟩, hF2⟩; (have HH := HH.kept0 hF2); (have HR := HR.kept0 hF2); (have kH := HH.blk.cell); (have kR := HR.blk.cell); (have hFr := hFr.trans hF2)) | (go_at_call 32; refine (same_true HH.short (RdS.of_own hO) HR.rds).mono ?_; rintro e w6 ⟨rfl, hF2⟩; (have HH := HH.kept0 hF2); (have HR := HR.kept0 hF2); (have kH := HH.blk.cell); (have kR := HR.blk.cell); (have hFr := hFr.trans hF2)))
          go_wp2_with fail
          go_roundw
          case rel => exact ⟨k + 1, _, by omega, by simp, HH, HR, hFr⟩
          case measure => simp [intOf]; omega
        · go_wp2
          go_ret
          exact ⟨rfl, hFr⟩
    · obtain ⟨z, hz⟩ : ∃ z, z = c.words := ⟨_, rfl⟩
      have HFm := hid (fun W => from_len (w := W) hR va l.length vc hlen (by omega))
      have hne : ((l.length : Int) != z) = true := bne_iff_ne.2 (fun e => hlen (by rw [e, hz]))
      rw [← hz] at HWd
      clear hlen hwf hg0 hv hr hz hw hR
      obtain ⟨cc, cm, cr, cg⟩ := c
      go_enter Try.func10, Try.ntmps10
      have hB := Blk.new w [.int .i64 cc, .int .i64 cm, .int .i64 cr, .int .i64 cg] 33
      have kB := hB.cell
      have hFF := (Fr.refl [] w).alloc (.cells #[.int .i64 cc, .int .i64 cm, .int .i64 cr, .int .i64 cg] 33)
      go_wp2_with (first | (go_at_call 48; with_reducible refine (awake07_any _).mono ?_; rintro e w2 ⟨rfl, hF2⟩; (have hB := hB.kept hF2 (by simp)); (have kB := hB.cell); (have hFF := hFF.trans hF2)) | (go_at_call 22; with_reducible refine (HG.out _).mono ?_; rintro e w2 ⟨rfl, hF2⟩; (have hB := hB.kept hF2 (by simp)); (have kB := hB.cell); (have hFF := hFF.trans hF2)) | (go_at_call 35; refine (HFm.out _).mono ?_; rintro e w2 ⟨rfl, hF2⟩; (have hB := hB.kept hF2 (by simp)); (have kB := hB.cell); (have hFF := hFF.trans hF2)) | (go_at_call 49; refine (HRt.out _).mono ?_; rintro e w2 ⟨rfl, hF2⟩; (have hB := hB.kept hF2 (by simp)); (have kB := hB.cell); (have hFF := hFF.trans hF2)) | (go_at_call 50; refine (HWd.out _).mono ?_; rintro e w2 ⟨rfl, hF2⟩; (have hB := hB.kept hF2 (by simp)); (have kB := hB.cell); (have hFF := hFF.trans hF2)))
      go_ret
      exact ⟨rfl, hFF⟩
  · have hr : c.right = false := by simpa using hr
    have HRt := hid (fun W => rRight_any c W false hr)
    have HFm := hid (fun W => from_bad (w := W) c hr (.slice va l.length vc))
    clear hwf hg0 hv hr
    obtain ⟨cc, cm, cr, cg⟩ := c
    go_enter Try.func10, Try.ntmps10
    have hB := Blk.new w [.int .i64 cc, .int .i64 cm, .int .i64 cr, .int .i64 cg] 33
    have kB := hB.cell
    have hFF := (Fr.refl [] w).alloc (.cells #[.int .i64 cc, .int .i64 cm, .int .i64 cr, .int .i64 cg] 33)
    go_wp2_with (first | (go_at_call 48; with_reducible refine (awake07_any _).mono ?_; rintro e w2 ⟨rfl, hF2⟩; (have hB := hB.kept hF2 (by simp)); (have kB := hB.cell); (have hFF := hFF.trans hF2)) | (go_at_call 22; with_reducible refine (HG.out _).mono ?_; rintro e w2 ⟨rfl, hF2⟩; (have hB := hB.kept hF2 (by simp)); (have kB := hB.cell); (have hFF := hFF.trans hF2)) | (go_at_call 35; refine (HFm.out _).mono ?_; rintro e w2 ⟨rfl, hF2⟩; (have hB := hB.kept hF2 (by simp)); (have kB := hB.cell); (have hFF := hFF.trans hF2)) | (go_at_call 49; refine (HRt.out _).mono ?_; rintro e w2 ⟨rfl, hF2⟩; (have hB := hB.kept hF2 (by simp)); (have kB := hB.cell); (have hFF := hFF.trans hF2)))
    go_ret
    exact ⟨rfl, hFF⟩

end Go.Proofs.Ytciojmdppfgelaa
