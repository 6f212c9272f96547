/- mudlarkref10: Begin, Step line by line. -/
import Derived.Test.YtinafadacgloaaaRefHand
import Derived.Test.YtinafadacgloaaaRefAt
import Derived.Test.YtinafadacgloaaaBarrier
namespace Go.Proofs.Ytinafadacgloaaa
open Go.RowKit
set_option linter.unusedVariables false
set_option linter.unusedSimpArgs false

theorem RAt.field {w : World} {r rd cap : Nat} {ext : List Value} {s : HS} (H : RAt w r rd cap ext s) (x p : Int) (h0 : 0 ≤ x) (h1 : x < 18446744073709551616) :
    Calls Try.prog 69 #[.pointer (some ⟨r, 0, none⟩), .int .u64 x, .int .i64 p] w fun e w' => e = .returned (.int .i64 (s.c.fieldP x p)) ∧ Fr [] w w' := rField_any H.right H.blk x p h0 h1

theorem rbegin_any (x : MutV) (u back : Int) (h0 : 0 ≤ u) (h1 : u < 18446744073709551616) (w : World) :
    Calls Try.prog 27 #[x.val, .int .u64 u, .int .i64 back] w fun e w' => e = .returned (brBegin x u back).val ∧ Fr [] w w' := by
  obtain ⟨line, ok, oa, ob, oc, a, b, c, n, t, p, bk, ret⟩ := x
  unfold MutV.val brBegin
  have HI := hid (rIsCell_any u h0 h1)
  by_cases hc : isCell u = true
  · rw [if_pos hc]
    rw [cellN_yes hc] at HI
    have hu0 : 0 ≤ u / 2 := by omega
    go_enter Try.func27, Try.ntmps27
    go_wp2_with (first | (go_at_call 32; refine (HI.out _).mono ?_; rintro e w2 ⟨rfl, rfl⟩))
    exact bodyPost_ret (v := .agg #[.int .i64 (80), .int .i64 ok, .int .i64 oa, .int .i64 ob, .int .i64 oc, .int .u64 a, .int .u64 b, .int .u64 c, .int .u64 n, .int .u64 t, .int .u64 u, .int .i64 back, .int .i64 ret]) (by simp [results, Try.results27, go_sem]) rfl ⟨rfl, by repeat (first | with_reducible exact (Fr.refl [] w).alloc _ | with_reducible exact ((Fr.refl [] w).alloc _).alloc _ | with_reducible refine Fr.setNew ?_ (Nat.le_refl _) _ | with_reducible refine Fr.setNew ?_ (Nat.le_succ _) _)⟩
  · have hc : isCell u = false := by simpa using hc
    rw [if_neg (by simp [hc])]
    rw [cellN_no hc] at HI
    go_enter Try.func27, Try.ntmps27
    go_wp2_with (first | (go_at_call 32; refine (HI.out _).mono ?_; rintro e w2 ⟨rfl, rfl⟩))
    exact bodyPost_ret (v := .agg #[.int .i64 back, .int .i64 ok, .int .i64 oa, .int .i64 ob, .int .i64 oc, .int .u64 a, .int .u64 b, .int .u64 c, .int .u64 n, .int .u64 t, .int .u64 (0), .int .i64 (0), .int .i64 ret]) (by simp [results, Try.results27, go_sem]) rfl ⟨rfl, by repeat (first | with_reducible exact (Fr.refl [] w).alloc _ | with_reducible exact ((Fr.refl [] w).alloc _).alloc _ | with_reducible refine Fr.setNew ?_ (Nat.le_refl _) _ | with_reducible refine Fr.setNew ?_ (Nat.le_succ _) _)⟩

theorem rbr80y {w : World} {r rd cap : Nat} {ext : List Value} {s : HS} (H : RAt w r rd cap ext s)  (ok oa ob oc a b c n t p back ret : Int) (hp0 : 0 ≤ p) (hp1 : p < 18446744073709551616) (hw : s.won (s.c.fieldP p 2) 0 = true) :
    Calls Try.prog 30 #[.pointer (some ⟨r, 0, none⟩), .agg #[.int .i64 (80), .int .i64 ok, .int .i64 oa, .int .i64 ob, .int .i64 oc, .int .u64 a, .int .u64 b, .int .u64 c, .int .u64 n, .int .u64 t, .int .u64 p, .int .i64 back, .int .i64 ret]] w fun e w' => e = .returned (.tuple #[.agg #[.int .i64 (81), .int .i64 ok, .int .i64 oa, .int .i64 ob, .int .i64 oc, .int .u64 a, .int .u64 b, .int .u64 c, .int .u64 n, .int .u64 t, .int .u64 (0), .int .i64 back, .int .i64 ret], .bool true]) ∧ (RAt w' r rd cap ext (s.doIt (aCas (s.c.fieldP p 2) 0 1)) ∧ Fr [r, rd] w w') := by
  have n0 := H.blk.lt
  have n1 := H.ar.dat.lt
  have hXn : w.heap.size ∉ [r, rd] := by simp; omega
  have hRn : w.heap.size + 1 ∉ [r, rd] := by simp; omega
  have HH := (H.alloc (.cells #[.int .i64 (80), .int .i64 ok, .int .i64 oa, .int .i64 ob, .int .i64 oc, .int .u64 a, .int .u64 b, .int .u64 c, .int .u64 n, .int .u64 t, .int .u64 p, .int .i64 back, .int .i64 ret] 53)).alloc (.cells #[.int .i64 0, .int .i64 0, .int .i64 0, .int .i64 0, .int .i64 0, .int .u64 0, .int .u64 0, .int .u64 0, .int .u64 0, .int .u64 0, .int .u64 0, .int .i64 0, .int .i64 0] 53)
  have hX := (Blk.new w [.int .i64 (80), .int .i64 ok, .int .i64 oa, .int .i64 ob, .int .i64 oc, .int .u64 a, .int .u64 b, .int .u64 c, .int .u64 n, .int .u64 t, .int .u64 p, .int .i64 back, .int .i64 ret] 53).alloc (.cells #[.int .i64 0, .int .i64 0, .int .i64 0, .int .i64 0, .int .i64 0, .int .u64 0, .int .u64 0, .int .u64 0, .int .u64 0, .int .u64 0, .int .u64 0, .int .i64 0, .int .i64 0] 53)
  have hR := Blk.new (w.alloc (.cells #[.int .i64 (80), .int .i64 ok, .int .i64 oa, .int .i64 ob, .int .i64 oc, .int .u64 a, .int .u64 b, .int .u64 c, .int .u64 n, .int .u64 t, .int .u64 p, .int .i64 back, .int .i64 ret] 53)) [.int .i64 0, .int .i64 0, .int .i64 0, .int .i64 0, .int .i64 0, .int .u64 0, .int .u64 0, .int .u64 0, .int .u64 0, .int .u64 0, .int .u64 0, .int .i64 0, .int .i64 0] 53
  simp only [World.size_alloc] at hR
  have hFF := ((Fr.refl [r, rd] w).alloc (.cells #[.int .i64 (80), .int .i64 ok, .int .i64 oa, .int .i64 ob, .int .i64 oc, .int .u64 a, .int .u64 b, .int .u64 c, .int .u64 n, .int .u64 t, .int .u64 p, .int .i64 back, .int .i64 ret] 53)).alloc (.cells #[.int .i64 0, .int .i64 0, .int .i64 0, .int .i64 0, .int .i64 0, .int .u64 0, .int .u64 0, .int .u64 0, .int .u64 0, .int .u64 0, .int .u64 0, .int .i64 0, .int .i64 0] 53)
  have a1 : r ≠ w.heap.size := by omega
  have a2 : rd ≠ w.heap.size := by omega
  have b1 : r ≠ w.heap.size + 1 := by omega
  have b2 : rd ≠ w.heap.size + 1 := by omega
  have d1 : ¬ w.heap.size = r := by omega
  have d2 : ¬ w.heap.size = rd := by omega
  have d3 : ¬ w.heap.size + 1 = r := by omega
  have d4 : ¬ w.heap.size + 1 = rd := by omega
  go_enter Try.func30, Try.ntmps30
  go_wp2_with (first | (go_at_call 69; refine (RAt.field HH _ _ (by omega) (by omega)).mono ?_; rintro e w2 ⟨rfl, hF2⟩; (have HH := HH.kept0 hF2); (have hX := hX.kept hF2 (by simp)); (have hR := hR.kept hF2 (by simp)); (have hFF := hFF.trans (hF2.mono (by simp))); (have kX := hX.cell); (have fX := hX.free); (have kR := hR.cell); (have fR := hR.free)) | (go_at_call 68; refine (rhcas_any HH _ _ _ (by omega) (by omega)).mono ?_; rintro e w2 ⟨rfl, HH, hF2⟩; (have hX := hX.kept hF2 hXn); (have hR := hR.kept hF2 hRn); (have hFF := hFF.trans hF2); (have kX := hX.cell); (have fX := hX.free); (have kR := hR.cell); (have fR := hR.free)))
  refine bodyPost_ret (v := .tuple #[.agg #[.int .i64 (81), .int .i64 ok, .int .i64 oa, .int .i64 ob, .int .i64 oc, .int .u64 a, .int .u64 b, .int .u64 c, .int .u64 n, .int .u64 t, .int .u64 (0), .int .i64 back, .int .i64 ret], .bool true]) (by simp [results, Try.results30, go_sem, kX, kR]) rfl ⟨rfl, ?_, ?_⟩
  · repeat (first | with_reducible exact HH | with_reducible refine RAt.other ?_ a1 a2 _ | with_reducible refine RAt.other ?_ b1 b2 _)
  · repeat (first | with_reducible exact hFF | with_reducible refine Fr.setNew ?_ (Nat.le_refl _) _ | with_reducible refine Fr.setNew ?_ (Nat.le_succ _) _)

theorem rbr80n {w : World} {r rd cap : Nat} {ext : List Value} {s : HS} (H : RAt w r rd cap ext s)  (ok oa ob oc a b c n t p back ret : Int) (hp0 : 0 ≤ p) (hp1 : p < 18446744073709551616) (hw : s.won (s.c.fieldP p 2) 0 = false) :
    Calls Try.prog 30 #[.pointer (some ⟨r, 0, none⟩), .agg #[.int .i64 (80), .int .i64 ok, .int .i64 oa, .int .i64 ob, .int .i64 oc, .int .u64 a, .int .u64 b, .int .u64 c, .int .u64 n, .int .u64 t, .int .u64 p, .int .i64 back, .int .i64 ret]] w fun e w' => e = .returned (.tuple #[.agg #[.int .i64 back, .int .i64 ok, .int .i64 oa, .int .i64 ob, .int .i64 oc, .int .u64 a, .int .u64 b, .int .u64 c, .int .u64 n, .int .u64 t, .int .u64 (0), .int .i64 (0), .int .i64 ret], .bool true]) ∧ (RAt w' r rd cap ext (s.doIt (aCas (s.c.fieldP p 2) 0 1)) ∧ Fr [r, rd] w w') := by
  have n0 := H.blk.lt
  have n1 := H.ar.dat.lt
  have hXn : w.heap.size ∉ [r, rd] := by simp; omega
  have hRn : w.heap.size + 1 ∉ [r, rd] := by simp; omega
  have HH := (H.alloc (.cells #[.int .i64 (80), .int .i64 ok, .int .i64 oa, .int .i64 ob, .int .i64 oc, .int .u64 a, .int .u64 b, .int .u64 c, .int .u64 n, .int .u64 t, .int .u64 p, .int .i64 back, .int .i64 ret] 53)).alloc (.cells #[.int .i64 0, .int .i64 0, .int .i64 0, .int .i64 0, .int .i64 0, .int .u64 0, .int .u64 0, .int .u64 0, .int .u64 0, .int .u64 0, .int .u64 0, .int .i64 0, .int .i64 0] 53)
  have hX := (Blk.new w [.int .i64 (80), .int .i64 ok, .int .i64 oa, .int .i64 ob, .int .i64 oc, .int .u64 a, .int .u64 b, .int .u64 c, .int .u64 n, .int .u64 t, .int .u64 p, .int .i64 back, .int .i64 ret] 53).alloc (.cells #[.int .i64 0, .int .i64 0, .int .i64 0, .int .i64 0, .int .i64 0, .int .u64 0, .int .u64 0, .int .u64 0, .int .u64 0, .int .u64 0, .int .u64 0, .int .i64 0, .int .i64 0] 53)
  have hR := Blk.new (w.alloc (.cells #[.int .i64 (80), .int .i64 ok, .int .i64 oa, .int .i64 ob, .int .i64 oc, .int .u64 a, .int .u64 b, .int .u64 c, .int .u64 n, .int .u64 t, .int .u64 p, .int .i64 back, .int .i64 ret] 53)) [.int .i64 0, .int .i64 0, .int .i64 0, .int .i64 0, .int .i64 0, .int .u64 0, .int .u64 0, .int .u64 0, .int .u64 0, .int .u64 0, .int .u64 0, .int .i64 0, .int .i64 0] 53
  simp only [World.size_alloc] at hR
  have hFF := ((Fr.refl [r, rd] w).alloc (.cells #[.int .i64 (80), .int .i64 ok, .int .i64 oa, .int .i64 ob, .int .i64 oc, .int .u64 a, .int .u64 b, .int .u64 c, .int .u64 n, .int .u64 t, .int .u64 p, .int .i64 back, .int .i64 ret] 53)).alloc (.cells #[.int .i64 0, .int .i64 0, .int .i64 0, .int .i64 0, .int .i64 0, .int .u64 0, .int .u64 0, .int .u64 0, .int .u64 0, .int .u64 0, .int .u64 0, .int .i64 0, .int .i64 0] 53)
  have a1 : r ≠ w.heap.size := by omega
  have a2 : rd ≠ w.heap.size := by omega
  have b1 : r ≠ w.heap.size + 1 := by omega
  have b2 : rd ≠ w.heap.size + 1 := by omega
  have d1 : ¬ w.heap.size = r := by omega
  have d2 : ¬ w.heap.size = rd := by omega
  have d3 : ¬ w.heap.size + 1 = r := by omega
  have d4 : ¬ w.heap.size + 1 = rd := by omega
  go_enter Try.func30, Try.ntmps30
  go_wp2_with (first | (go_at_call 69; refine (RAt.field HH _ _ (by omega) (by omega)).mono ?_; rintro e w2 ⟨rfl, hF2⟩; (have HH := HH.kept0 hF2); (have hX := hX.kept hF2 (by simp)); (have hR := hR.kept hF2 (by simp)); (have hFF := hFF.trans (hF2.mono (by simp))); (have kX := hX.cell); (have fX := hX.free); (have kR := hR.cell); (have fR := hR.free)) | (go_at_call 68; refine (rhcas_any HH _ _ _ (by omega) (by omega)).mono ?_; rintro e w2 ⟨rfl, HH, hF2⟩; (have hX := hX.kept hF2 hXn); (have hR := hR.kept hF2 hRn); (have hFF := hFF.trans hF2); (have kX := hX.cell); (have fX := hX.free); (have kR := hR.cell); (have fR := hR.free)))
  refine bodyPost_ret (v := .tuple #[.agg #[.int .i64 back, .int .i64 ok, .int .i64 oa, .int .i64 ob, .int .i64 oc, .int .u64 a, .int .u64 b, .int .u64 c, .int .u64 n, .int .u64 t, .int .u64 (0), .int .i64 (0), .int .i64 ret], .bool true]) (by simp [results, Try.results30, go_sem, kX, kR]) rfl ⟨rfl, ?_, ?_⟩
  · repeat (first | with_reducible exact HH | with_reducible refine RAt.other ?_ a1 a2 _ | with_reducible refine RAt.other ?_ b1 b2 _)
  · repeat (first | with_reducible exact hFF | with_reducible refine Fr.setNew ?_ (Nat.le_refl _) _ | with_reducible refine Fr.setNew ?_ (Nat.le_succ _) _)

theorem rbr81 {w : World} {r rd cap : Nat} {ext : List Value} {s : HS} (H : RAt w r rd cap ext s)  (ok oa ob oc a b c n t p back ret : Int)  :
    Calls Try.prog 30 #[.pointer (some ⟨r, 0, none⟩), .agg #[.int .i64 (81), .int .i64 ok, .int .i64 oa, .int .i64 ob, .int .i64 oc, .int .u64 a, .int .u64 b, .int .u64 c, .int .u64 n, .int .u64 t, .int .u64 p, .int .i64 back, .int .i64 ret]] w fun e w' => e = .returned (.tuple #[.agg #[.int .i64 back, .int .i64 ok, .int .i64 oa, .int .i64 ob, .int .i64 oc, .int .u64 a, .int .u64 b, .int .u64 c, .int .u64 n, .int .u64 t, .int .u64 (0), .int .i64 (0), .int .i64 ret], .bool true]) ∧ (RAt w' r rd cap ext (s.doIt (aStore 2 1)) ∧ Fr [r, rd] w w') := by
  have n0 := H.blk.lt
  have n1 := H.ar.dat.lt
  have hXn : w.heap.size ∉ [r, rd] := by simp; omega
  have hRn : w.heap.size + 1 ∉ [r, rd] := by simp; omega
  have HH := (H.alloc (.cells #[.int .i64 (81), .int .i64 ok, .int .i64 oa, .int .i64 ob, .int .i64 oc, .int .u64 a, .int .u64 b, .int .u64 c, .int .u64 n, .int .u64 t, .int .u64 p, .int .i64 back, .int .i64 ret] 53)).alloc (.cells #[.int .i64 0, .int .i64 0, .int .i64 0, .int .i64 0, .int .i64 0, .int .u64 0, .int .u64 0, .int .u64 0, .int .u64 0, .int .u64 0, .int .u64 0, .int .i64 0, .int .i64 0] 53)
  have hX := (Blk.new w [.int .i64 (81), .int .i64 ok, .int .i64 oa, .int .i64 ob, .int .i64 oc, .int .u64 a, .int .u64 b, .int .u64 c, .int .u64 n, .int .u64 t, .int .u64 p, .int .i64 back, .int .i64 ret] 53).alloc (.cells #[.int .i64 0, .int .i64 0, .int .i64 0, .int .i64 0, .int .i64 0, .int .u64 0, .int .u64 0, .int .u64 0, .int .u64 0, .int .u64 0, .int .u64 0, .int .i64 0, .int .i64 0] 53)
  have hR := Blk.new (w.alloc (.cells #[.int .i64 (81), .int .i64 ok, .int .i64 oa, .int .i64 ob, .int .i64 oc, .int .u64 a, .int .u64 b, .int .u64 c, .int .u64 n, .int .u64 t, .int .u64 p, .int .i64 back, .int .i64 ret] 53)) [.int .i64 0, .int .i64 0, .int .i64 0, .int .i64 0, .int .i64 0, .int .u64 0, .int .u64 0, .int .u64 0, .int .u64 0, .int .u64 0, .int .u64 0, .int .i64 0, .int .i64 0] 53
  simp only [World.size_alloc] at hR
  have hFF := ((Fr.refl [r, rd] w).alloc (.cells #[.int .i64 (81), .int .i64 ok, .int .i64 oa, .int .i64 ob, .int .i64 oc, .int .u64 a, .int .u64 b, .int .u64 c, .int .u64 n, .int .u64 t, .int .u64 p, .int .i64 back, .int .i64 ret] 53)).alloc (.cells #[.int .i64 0, .int .i64 0, .int .i64 0, .int .i64 0, .int .i64 0, .int .u64 0, .int .u64 0, .int .u64 0, .int .u64 0, .int .u64 0, .int .u64 0, .int .i64 0, .int .i64 0] 53)
  have a1 : r ≠ w.heap.size := by omega
  have a2 : rd ≠ w.heap.size := by omega
  have b1 : r ≠ w.heap.size + 1 := by omega
  have b2 : rd ≠ w.heap.size + 1 := by omega
  have d1 : ¬ w.heap.size = r := by omega
  have d2 : ¬ w.heap.size = rd := by omega
  have d3 : ¬ w.heap.size + 1 = r := by omega
  have d4 : ¬ w.heap.size + 1 = rd := by omega
  go_enter Try.func30, Try.ntmps30
  go_wp2_with (first | (go_at_call 70; refine (rhstore_any HH _ _ (by omega)).mono ?_; rintro e w2 ⟨rfl, HH, hF2⟩; (have hX := hX.kept hF2 hXn); (have hR := hR.kept hF2 hRn); (have hFF := hFF.trans hF2); (have kX := hX.cell); (have fX := hX.free); (have kR := hR.cell); (have fR := hR.free)))
  refine bodyPost_ret (v := .tuple #[.agg #[.int .i64 back, .int .i64 ok, .int .i64 oa, .int .i64 ob, .int .i64 oc, .int .u64 a, .int .u64 b, .int .u64 c, .int .u64 n, .int .u64 t, .int .u64 (0), .int .i64 (0), .int .i64 ret], .bool true]) (by simp [results, Try.results30, go_sem, kX, kR]) rfl ⟨rfl, ?_, ?_⟩
  · repeat (first | with_reducible exact HH | with_reducible refine RAt.other ?_ a1 a2 _ | with_reducible refine RAt.other ?_ b1 b2 _)
  · repeat (first | with_reducible exact hFF | with_reducible refine Fr.setNew ?_ (Nat.le_refl _) _ | with_reducible refine Fr.setNew ?_ (Nat.le_succ _) _)

theorem rbrno {w : World} {r rd cap : Nat} {ext : List Value} {s : HS} (H : RAt w r rd cap ext s)  (line ok oa ob oc a b c n t p back ret : Int) (k1 : ¬ line = 80) (k2 : ¬ line = 81) :
    Calls Try.prog 30 #[.pointer (some ⟨r, 0, none⟩), .agg #[.int .i64 line, .int .i64 ok, .int .i64 oa, .int .i64 ob, .int .i64 oc, .int .u64 a, .int .u64 b, .int .u64 c, .int .u64 n, .int .u64 t, .int .u64 p, .int .i64 back, .int .i64 ret]] w fun e w' => e = .returned (.tuple #[.agg #[.int .i64 line, .int .i64 ok, .int .i64 oa, .int .i64 ob, .int .i64 oc, .int .u64 a, .int .u64 b, .int .u64 c, .int .u64 n, .int .u64 t, .int .u64 p, .int .i64 back, .int .i64 ret], .bool false]) ∧ (RAt w' r rd cap ext (s) ∧ Fr [r, rd] w w') := by
  have n0 := H.blk.lt
  have n1 := H.ar.dat.lt
  have hXn : w.heap.size ∉ [r, rd] := by simp; omega
  have hRn : w.heap.size + 1 ∉ [r, rd] := by simp; omega
  have HH := (H.alloc (.cells #[.int .i64 line, .int .i64 ok, .int .i64 oa, .int .i64 ob, .int .i64 oc, .int .u64 a, .int .u64 b, .int .u64 c, .int .u64 n, .int .u64 t, .int .u64 p, .int .i64 back, .int .i64 ret] 53)).alloc (.cells #[.int .i64 0, .int .i64 0, .int .i64 0, .int .i64 0, .int .i64 0, .int .u64 0, .int .u64 0, .int .u64 0, .int .u64 0, .int .u64 0, .int .u64 0, .int .i64 0, .int .i64 0] 53)
  have hX := (Blk.new w [.int .i64 line, .int .i64 ok, .int .i64 oa, .int .i64 ob, .int .i64 oc, .int .u64 a, .int .u64 b, .int .u64 c, .int .u64 n, .int .u64 t, .int .u64 p, .int .i64 back, .int .i64 ret] 53).alloc (.cells #[.int .i64 0, .int .i64 0, .int .i64 0, .int .i64 0, .int .i64 0, .int .u64 0, .int .u64 0, .int .u64 0, .int .u64 0, .int .u64 0, .int .u64 0, .int .i64 0, .int .i64 0] 53)
  have hR := Blk.new (w.alloc (.cells #[.int .i64 line, .int .i64 ok, .int .i64 oa, .int .i64 ob, .int .i64 oc, .int .u64 a, .int .u64 b, .int .u64 c, .int .u64 n, .int .u64 t, .int .u64 p, .int .i64 back, .int .i64 ret] 53)) [.int .i64 0, .int .i64 0, .int .i64 0, .int .i64 0, .int .i64 0, .int .u64 0, .int .u64 0, .int .u64 0, .int .u64 0, .int .u64 0, .int .u64 0, .int .i64 0, .int .i64 0] 53
  simp only [World.size_alloc] at hR
  have hFF := ((Fr.refl [r, rd] w).alloc (.cells #[.int .i64 line, .int .i64 ok, .int .i64 oa, .int .i64 ob, .int .i64 oc, .int .u64 a, .int .u64 b, .int .u64 c, .int .u64 n, .int .u64 t, .int .u64 p, .int .i64 back, .int .i64 ret] 53)).alloc (.cells #[.int .i64 0, .int .i64 0, .int .i64 0, .int .i64 0, .int .i64 0, .int .u64 0, .int .u64 0, .int .u64 0, .int .u64 0, .int .u64 0, .int .u64 0, .int .i64 0, .int .i64 0] 53)
  have a1 : r ≠ w.heap.size := by omega
  have a2 : rd ≠ w.heap.size := by omega
  have b1 : r ≠ w.heap.size + 1 := by omega
  have b2 : rd ≠ w.heap.size + 1 := by omega
  have d1 : ¬ w.heap.size = r := by omega
  have d2 : ¬ w.heap.size = rd := by omega
  have d3 : ¬ w.heap.size + 1 = r := by omega
  have d4 : ¬ w.heap.size + 1 = rd := by omega
  have g1 : (line != 80) = true := bne_iff_ne.2 k1
  have g2 : (line != 81) = true := bne_iff_ne.2 k2
  go_enter Try.func30, Try.ntmps30
  go_wp2
  refine bodyPost_ret (v := .tuple #[.agg #[.int .i64 line, .int .i64 ok, .int .i64 oa, .int .i64 ob, .int .i64 oc, .int .u64 a, .int .u64 b, .int .u64 c, .int .u64 n, .int .u64 t, .int .u64 p, .int .i64 back, .int .i64 ret], .bool false]) (by simp [results, Try.results30, go_sem]) rfl ⟨rfl, ?_, ?_⟩
  · exact (H.alloc _).alloc _
  · exact ((Fr.refl _ _).alloc _).alloc _

end Go.Proofs.Ytinafadacgloaaa
