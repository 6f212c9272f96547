/- mudlarklaw07.HandFields: the walk. -/
import Derived.Test.YtciojmdppfgelaaAwake07
import Derived.Test.YtciojmdppfgelaaHandNil
import Derived.Test.YtciojmdppfgelaaRefAt
import Derived.Test.YtciojmdppfgelaaRefFirst
import Derived.Test.YtciojmdppfgelaaLaw10
namespace Go.Proofs.Ytciojmdppfgelaa
open Go.RowKit
set_option linter.unusedVariables false
set_option linter.unusedSimpArgs false

theorem rfirst4_right {w : World} {c : Cfg} (hR : c.Right) : Calls Try.prog 34 #[c.val] w fun e w' => NewWords w 49 (firstW c) e w' ∧ Fr [] w w' := by
  obtain ⟨cc, cm, cr, cg⟩ := c
  have h := hR
  have c0 := h.c0; have m0 := h.m0; have r0 := h.r0; have g0 := h.g0
  simp only at c0 m0 r0 g0
  obtain ⟨a, rfl⟩ := Int.eq_ofNat_of_zero_le (show 0 ≤ cc by omega)
  obtain ⟨b, rfl⟩ := Int.eq_ofNat_of_zero_le (show 0 ≤ cm by omega)
  obtain ⟨d, rfl⟩ := Int.eq_ofNat_of_zero_le (show 0 ≤ cr by omega)
  obtain ⟨e, rfl⟩ := Int.eq_ofNat_of_zero_le g0
  exact rfirst4_ok hR

set_option maxRecDepth 100000 in
set_option maxHeartbeats 4000000 in
theorem handFields_any (c : Cfg) (x p : Int) (w : World) (hx : 0 ≤ x ∧ x < 18446744073709551616) :
    Calls Try.prog 12 #[c.val, .int .u64 x, .int .i64 p] w fun e w' => e = .returned (.bool true) ∧ Fr [] w w' := by
  have HG := fun g (hg : c.great = g) => hid (fun W => by have := great_any c W; rw [hg] at this; exact this)
  have HFn := hid (fun W => field_nil x p hx.1 hx.2 W)
  by_cases hg : c.great = true
  · have HG := HG true hg
    clear hg hx HFn
    obtain ⟨cc, cm, cr, cg⟩ := c
    go_enter Try.func12, Try.ntmps12
    have hB := Blk.new w [.int .i64 cc, .int .i64 cm, .int .i64 cr, .int .i64 cg] 33
    have kB := hB.cell
    have hFF := (Fr.refl [] w).alloc (.cells #[.int .i64 cc, .int .i64 cm, .int .i64 cr, .int .i64 cg] 33)
    go_wp2_with (first | (go_at_call 48; with_reducible refine (awake07_any _).mono ?_; rintro e w2 ⟨rfl, hF2⟩; (have hB := hB.kept hF2 (by simp)); (have kB := hB.cell); (have hFF := hFF.trans hF2)) | (go_at_call 22; with_reducible refine (HG.out _).mono ?_; rintro e w2 ⟨rfl, hF2⟩; (have hFF := hFF.trans hF2)))
    go_ret
    exact ⟨rfl, hFF⟩
  have hg : c.great = false := by simpa using hg
  have HG := HG false hg
  by_cases hr : c.right = true
  · have hR := (c.right_iff).1 hr
    have HRt := hid (fun W => rRight_any c W true hr)
    have HN := hid (fun W => new_ok (w := W) hR)
    have HF := hid (fun (W : World) (h ab db : Nat) (s : HS) (hs : s.c = c) (H : HAt W h ab db s) => by have := field_any H x p hx.1 hx.2; rw [hs] at this; exact this)
    have HRF := hid (fun (W : World) (r : Nat) (T : TypeId) (rest : List Value) (hB : Blk W r T ([.int .i64 c.cells, .int .i64 c.muts, .int .i64 c.regs, .int .i64 c.globs] ++ rest)) => rField_any hR hB x p hx.1 hx.2)
    have HFi := hid (fun W => rfirst4_right (w := W) hR)
    have hwl : (firstW c).length ≤ 20000 := by
      have := hR.words_pos
      have e : (firstW c).length = c.words.toNat := firstTo_length _ _
      omega
    have HAll := hid (fun (W : World) (ab db : Nat) (hA : AAt W ab db (firstW c)) => all_any hA (by omega))
    have HSame := hid (fun (W : World) (u v : Value) (hu : RdS W u (firstW c).length (u64s (firstW c))) (hv : RdS W v (firstW c).length (u64s (firstW c))) => by have := rSame_any hu hv (by omega) (by omega); rw [decide_eq_true (rfl : firstW c = firstW c)] at this; exact this)
    obtain ⟨f, hf⟩ : ∃ f, f = firstW c := ⟨_, rfl⟩
    simp only [← hf] at HN HFi HAll HSame
    obtain ⟨z, hz⟩ : ∃ z, z = c.fieldP x p := ⟨_, rfl⟩
    simp only [← hz] at HF HRF
    clear hf hz hwl hg hr hR hx
    obtain ⟨cc, cm, cr, cg⟩ := c
    go_enter Try.func12, Try.ntmps12
    have hB := Blk.new w [.int .i64 cc, .int .i64 cm, .int .i64 cr, .int .i64 cg] 33
    have kB := hB.cell
    have hFF := (Fr.refl [] w).alloc (.cells #[.int .i64 cc, .int .i64 cm, .int .i64 cr, .int .i64 cg] 33)
    go_wp2_with (first | (go_at_call 48; with_reducible refine (awake07_any _).mono ?_; rintro e w2 ⟨rfl, hF2⟩; (have hB := hB.kept hF2 (by simp)); (have kB := hB.cell); (have hFF := hFF.trans hF2)) | (go_at_call 22; with_reducible refine (HG.out _).mono ?_; rintro e w2 ⟨rfl, hF2⟩; (have hB := hB.kept hF2 (by simp)); (have kB := hB.cell); (have hFF := hFF.trans hF2)) | (go_at_call 53; with_reducible refine (hstore_nil _ _ _).mono ?_; rintro e w2 ⟨rfl, hF2⟩; (have hB := hB.kept hF2 (by simp)); (have kB := hB.cell); (have hFF := hFF.trans hF2)) | (go_at_call 59; with_reducible refine (hclear_nil _).mono ?_; rintro e w2 ⟨rfl, hF2⟩; (have hB := hB.kept hF2 (by simp)); (have kB := hB.cell); (have hFF := hFF.trans hF2)) | (go_at_call 51; with_reducible refine (hload_nil _ _).mono ?_; rintro e w2 ⟨rfl, hF2⟩; (have hB := hB.kept hF2 (by simp)); (have kB := hB.cell); (have hFF := hFF.trans hF2)) | (go_at_call 57; with_reducible refine (hadd_nil _ _ _).mono ?_; rintro e w2 ⟨rfl, hF2⟩; (have hB := hB.kept hF2 (by simp)); (have kB := hB.cell); (have hFF := hFF.trans hF2)) | (go_at_call 55; with_reducible refine (hcas_nil _ _ _ _).mono ?_; rintro e w2 ⟨rfl, hF2⟩; (have hB := hB.kept hF2 (by simp)); (have kB := hB.cell); (have hFF := hFF.trans hF2)) | (go_at_call 62; with_reducible refine (HFn.out _).mono ?_; rintro e w2 ⟨rfl, rfl⟩) | (go_at_call 61; go_must (refine (HN.out _).mono ?_); go_must (rintro e w2 ⟨⟨h, ab, db, rfl, HH, q1, q2, q3⟩, hF2⟩); (have hB := hB.kept hF2 (by simp)); (have kB := hB.cell); (have hFF := hFF.trans hF2)) | (go_at_call 49; with_reducible refine (HRt.out _).mono ?_; rintro e w2 ⟨rfl, hF2⟩; (have hB := hB.kept hF2 (by simp)); (have kB := hB.cell); (have HH := HH.kept0 hF2); (have hFF := hFF.trans hF2)))
    have hX := (Blk.new w2 [.int .i64 cc, .int .i64 cm, .int .i64 cr, .int .i64 cg, .slice none 0 0, .int .i64 0, .int .i64 0, .int .u64 0, .int .u64 0, .int .u64 0] 88).drew
    have HH := (HH.alloc (.cells #[.int .i64 cc, .int .i64 cm, .int .i64 cr, .int .i64 cg, .slice none 0 0, .int .i64 0, .int .i64 0, .int .u64 0, .int .u64 0, .int .u64 0] 88)).drew
    have hB := (hB.alloc (.cells #[.int .i64 cc, .int .i64 cm, .int .i64 cr, .int .i64 cg, .slice none 0 0, .int .i64 0, .int .i64 0, .int .u64 0, .int .u64 0, .int .u64 0] 88)).drew
    have hFF := (hFF.alloc (.cells #[.int .i64 cc, .int .i64 cm, .int .i64 cr, .int .i64 cg, .slice none 0 0, .int .i64 0, .int .i64 0, .int .u64 0, .int .u64 0, .int .u64 0] 88)).drew
    have kB := hB.cell
    have kH := HH.blk.cell
    go_region_held3 (fun w' => w'.cell? ⟨w.heap.size, 0, none⟩ = some (.int .i64 cc) ∧ w'.cell? ⟨w.heap.size, 1, none⟩ = some (.int .i64 cm) ∧ w'.cell? ⟨w.heap.size, 2, none⟩ = some (.int .i64 cr) ∧ w'.cell? ⟨w.heap.size, 3, none⟩ = some (.int .i64 cg) ∧ w'.cell? ⟨h, 0, none⟩ = some (.pointer (some ⟨ab, 0, none⟩))) (go_keep)
      (first | (go_at_call 62; refine (HF.out _ _ _ _ _ rfl HH).mono ?_; rintro e w4 ⟨rfl, hF2⟩; (have hB := hB.kept hF2 (by simp)); (have kB := hB.cell); (have HH := HH.kept0 hF2); (have kH := HH.blk.cell); (have hX := hX.kept hF2 (by simp)); (have hFF := hFF.trans hF2)) | (go_at_call 63; refine (HRF.out _ _ _ _ hX).mono ?_; rintro e w4 ⟨rfl, hF2⟩; (have hB := hB.kept hF2 (by simp)); (have kB := hB.cell); (have HH := HH.kept0 hF2); (have kH := HH.blk.cell); (have hX := hX.kept hF2 (by simp)); (have hFF := hFF.trans hF2)) | (go_at_call 60; refine (HAll.out _ _ _ HH.ar).mono ?_; rintro e w4 ⟨⟨v, rfl, hO⟩, hF2⟩; (have hRd := RdS.of_own hO); (have hB := hB.kept hF2 (by simp)); (have kB := hB.cell); (have HH := HH.kept0 hF2); (have kH := HH.blk.cell); (have hX := hX.kept hF2 (by simp)); (have hFF := hFF.trans hF2)) | (go_at_call 34; refine (HFi.out _).mono ?_; rintro e w4 ⟨⟨g, rfl, hG, hg⟩, hF2⟩; (have hRd := hRd.kept0 hF2); (have hB := hB.kept hF2 (by simp)); (have kB := hB.cell); (have HH := HH.kept0 hF2); (have kH := HH.blk.cell); (have hX := hX.kept hF2 (by simp)); (have hFF := hFF.trans hF2)) | (go_at_call 32; refine (HSame.out _ _ _ hRd (RdS.of_blk hG)).mono ?_; rintro e w4 ⟨rfl, hF2⟩; (have hB := hB.kept hF2 (by simp)); (have kB := hB.cell); (have HH := HH.kept0 hF2); (have kH := HH.blk.cell); (have hX := hX.kept hF2 (by simp)); (have hFF := hFF.trans hF2)))
    go_wp2
    go_ret
    exact ⟨rfl, hFF⟩
  · have hr : c.right = false := by simpa using hr
    have HRt := hid (fun W => rRight_any c W false hr)
    have HN := hid (fun W => new_bad (w := W) c hr)
    clear hg hr hx
    obtain ⟨cc, cm, cr, cg⟩ := c
    go_enter Try.func12, Try.ntmps12
    have hB := Blk.new w [.int .i64 cc, .int .i64 cm, .int .i64 cr, .int .i64 cg] 33
    have kB := hB.cell
    have hFF := (Fr.refl [] w).alloc (.cells #[.int .i64 cc, .int .i64 cm, .int .i64 cr, .int .i64 cg] 33)
    go_wp2_with (first | (go_at_call 48; with_reducible refine (awake07_any _).mono ?_; rintro e w2 ⟨rfl, hF2⟩; (have hB := hB.kept hF2 (by simp)); (have kB := hB.cell); (have hFF := hFF.trans hF2)) | (go_at_call 22; with_reducible refine (HG.out _).mono ?_; rintro e w2 ⟨rfl, hF2⟩; (have hB := hB.kept hF2 (by simp)); (have kB := hB.cell); (have hFF := hFF.trans hF2)) | (go_at_call 53; with_reducible refine (hstore_nil _ _ _).mono ?_; rintro e w2 ⟨rfl, hF2⟩; (have hB := hB.kept hF2 (by simp)); (have kB := hB.cell); (have hFF := hFF.trans hF2)) | (go_at_call 59; with_reducible refine (hclear_nil _).mono ?_; rintro e w2 ⟨rfl, hF2⟩; (have hB := hB.kept hF2 (by simp)); (have kB := hB.cell); (have hFF := hFF.trans hF2)) | (go_at_call 51; with_reducible refine (hload_nil _ _).mono ?_; rintro e w2 ⟨rfl, hF2⟩; (have hB := hB.kept hF2 (by simp)); (have kB := hB.cell); (have hFF := hFF.trans hF2)) | (go_at_call 57; with_reducible refine (hadd_nil _ _ _).mono ?_; rintro e w2 ⟨rfl, hF2⟩; (have hB := hB.kept hF2 (by simp)); (have kB := hB.cell); (have hFF := hFF.trans hF2)) | (go_at_call 55; with_reducible refine (hcas_nil _ _ _ _).mono ?_; rintro e w2 ⟨rfl, hF2⟩; (have hB := hB.kept hF2 (by simp)); (have kB := hB.cell); (have hFF := hFF.trans hF2)) | (go_at_call 62; with_reducible refine (HFn.out _).mono ?_; rintro e w2 ⟨rfl, rfl⟩) | (go_at_call 61; refine (HN.out _).mono ?_; rintro e w2 ⟨rfl, hF2⟩; (have hB := hB.kept hF2 (by simp)); (have kB := hB.cell); (have hFF := hFF.trans hF2)) | (go_at_call 49; refine (HRt.out _).mono ?_; rintro e w2 ⟨rfl, hF2⟩; (have hB := hB.kept hF2 (by simp)); (have kB := hB.cell); (have hFF := hFF.trans hF2)))
    go_ret
    exact ⟨rfl, hFF⟩

end Go.Proofs.Ytciojmdppfgelaa
