/- mudlarkref11.Step. -/
import Derived.Test.YtciojmdppfgelaaRefHand
namespace Go.Proofs.Ytciojmdppfgelaa
open Go.RowKit
set_option linter.unusedVariables false
set_option linter.unusedSimpArgs false

theorem rtk32 {w : World} {r rd cap : Nat} {ext : List Value} {s : HS} (H : RAt w r rd cap ext s)  (ok oa ob oc a b c n t p back ret : Int)  :
    Calls Try.prog 46 #[.pointer (some ⟨r, 0, none⟩), .agg #[.int .i64 (32), .int .i64 ok, .int .i64 oa, .int .i64 ob, .int .i64 oc, .int .u64 a, .int .u64 b, .int .u64 c, .int .u64 n, .int .u64 t, .int .u64 p, .int .i64 back, .int .i64 ret]] w fun e w' => e = .returned (.tuple #[.agg #[.int .i64 (33), .int .i64 ok, .int .i64 oa, .int .i64 ob, .int .i64 oc, .int .u64 a, .int .u64 b, .int .u64 c, .int .u64 n, .int .u64 (wAt s.ws 3), .int .u64 p, .int .i64 back, .int .i64 ret], .bool true]) ∧ (RAt w' r rd cap ext (s.doIt (aAdd 3 1)) ∧ Fr [r, rd] w w') := by
  have n0 := H.blk.lt
  have n1 := H.ar.dat.lt
  have hXn : w.heap.size ∉ [r, rd] := by simp; omega
  have hRn : w.heap.size + 1 ∉ [r, rd] := by simp; omega
  have HH := (H.alloc (.cells #[.int .i64 (32), .int .i64 ok, .int .i64 oa, .int .i64 ob, .int .i64 oc, .int .u64 a, .int .u64 b, .int .u64 c, .int .u64 n, .int .u64 t, .int .u64 p, .int .i64 back, .int .i64 ret] 60)).alloc (.cells #[.int .i64 0, .int .i64 0, .int .i64 0, .int .i64 0, .int .i64 0, .int .u64 0, .int .u64 0, .int .u64 0, .int .u64 0, .int .u64 0, .int .u64 0, .int .i64 0, .int .i64 0] 60)
  have hX := (Blk.new w [.int .i64 (32), .int .i64 ok, .int .i64 oa, .int .i64 ob, .int .i64 oc, .int .u64 a, .int .u64 b, .int .u64 c, .int .u64 n, .int .u64 t, .int .u64 p, .int .i64 back, .int .i64 ret] 60).alloc (.cells #[.int .i64 0, .int .i64 0, .int .i64 0, .int .i64 0, .int .i64 0, .int .u64 0, .int .u64 0, .int .u64 0, .int .u64 0, .int .u64 0, .int .u64 0, .int .i64 0, .int .i64 0] 60)
  have hR := Blk.new (w.alloc (.cells #[.int .i64 (32), .int .i64 ok, .int .i64 oa, .int .i64 ob, .int .i64 oc, .int .u64 a, .int .u64 b, .int .u64 c, .int .u64 n, .int .u64 t, .int .u64 p, .int .i64 back, .int .i64 ret] 60)) [.int .i64 0, .int .i64 0, .int .i64 0, .int .i64 0, .int .i64 0, .int .u64 0, .int .u64 0, .int .u64 0, .int .u64 0, .int .u64 0, .int .u64 0, .int .i64 0, .int .i64 0] 60
  simp only [World.size_alloc] at hR
  have hFF := ((Fr.refl [r, rd] w).alloc (.cells #[.int .i64 (32), .int .i64 ok, .int .i64 oa, .int .i64 ob, .int .i64 oc, .int .u64 a, .int .u64 b, .int .u64 c, .int .u64 n, .int .u64 t, .int .u64 p, .int .i64 back, .int .i64 ret] 60)).alloc (.cells #[.int .i64 0, .int .i64 0, .int .i64 0, .int .i64 0, .int .i64 0, .int .u64 0, .int .u64 0, .int .u64 0, .int .u64 0, .int .u64 0, .int .u64 0, .int .i64 0, .int .i64 0] 60)
  have a1 : r ≠ w.heap.size := by omega
  have a2 : rd ≠ w.heap.size := by omega
  have b1 : r ≠ w.heap.size + 1 := by omega
  have b2 : rd ≠ w.heap.size + 1 := by omega
  have d1 : ¬ w.heap.size = r := by omega
  have d2 : ¬ w.heap.size = rd := by omega
  have d3 : ¬ w.heap.size + 1 = r := by omega
  have d4 : ¬ w.heap.size + 1 = rd := by omega
  go_enter Try.func46, Try.ntmps46
  go_wp2_with (first | (go_at_call 58; refine (rhadd_any HH _ _ (by omega)).mono ?_; rintro e w2 ⟨rfl, HH, hF2⟩; (have hX := hX.kept hF2 hXn); (have hR := hR.kept hF2 hRn); (have hFF := hFF.trans hF2); (have kX := hX.cell); (have fX := hX.free); (have kR := hR.cell); (have fR := hR.free)))
  refine bodyPost_ret (v := .tuple #[.agg #[.int .i64 (33), .int .i64 ok, .int .i64 oa, .int .i64 ob, .int .i64 oc, .int .u64 a, .int .u64 b, .int .u64 c, .int .u64 n, .int .u64 (wAt s.ws 3), .int .u64 p, .int .i64 back, .int .i64 ret], .bool true]) (by simp [results, Try.results46, go_sem, kX, kR]) rfl ⟨rfl, ?_, ?_⟩
  · repeat (first | with_reducible exact HH | with_reducible refine RAt.other ?_ a1 a2 _ | with_reducible refine RAt.other ?_ b1 b2 _)
  · repeat (first | with_reducible exact hFF | with_reducible refine Fr.setNew ?_ (Nat.le_refl _) _ | with_reducible refine Fr.setNew ?_ (Nat.le_succ _) _)

theorem rtk33y {w : World} {r rd cap : Nat} {ext : List Value} {s : HS} (H : RAt w r rd cap ext s)  (ok oa ob oc a b c n p back ret : Int)  :
    Calls Try.prog 46 #[.pointer (some ⟨r, 0, none⟩), .agg #[.int .i64 (33), .int .i64 ok, .int .i64 oa, .int .i64 ob, .int .i64 oc, .int .u64 a, .int .u64 b, .int .u64 c, .int .u64 n, .int .u64 ((wAt s.ws 4)), .int .u64 p, .int .i64 back, .int .i64 ret]] w fun e w' => e = .returned (.tuple #[.agg #[.int .i64 (34), .int .i64 ok, .int .i64 oa, .int .i64 ob, .int .i64 oc, .int .u64 a, .int .u64 b, .int .u64 c, .int .u64 n, .int .u64 ((wAt s.ws 4)), .int .u64 p, .int .i64 back, .int .i64 ret], .bool true]) ∧ (RAt w' r rd cap ext (s.doIt (aLoad 4)) ∧ Fr [r, rd] w w') := by
  have n0 := H.blk.lt
  have n1 := H.ar.dat.lt
  have hXn : w.heap.size ∉ [r, rd] := by simp; omega
  have hRn : w.heap.size + 1 ∉ [r, rd] := by simp; omega
  have HH := (H.alloc (.cells #[.int .i64 (33), .int .i64 ok, .int .i64 oa, .int .i64 ob, .int .i64 oc, .int .u64 a, .int .u64 b, .int .u64 c, .int .u64 n, .int .u64 ((wAt s.ws 4)), .int .u64 p, .int .i64 back, .int .i64 ret] 60)).alloc (.cells #[.int .i64 0, .int .i64 0, .int .i64 0, .int .i64 0, .int .i64 0, .int .u64 0, .int .u64 0, .int .u64 0, .int .u64 0, .int .u64 0, .int .u64 0, .int .i64 0, .int .i64 0] 60)
  have hX := (Blk.new w [.int .i64 (33), .int .i64 ok, .int .i64 oa, .int .i64 ob, .int .i64 oc, .int .u64 a, .int .u64 b, .int .u64 c, .int .u64 n, .int .u64 ((wAt s.ws 4)), .int .u64 p, .int .i64 back, .int .i64 ret] 60).alloc (.cells #[.int .i64 0, .int .i64 0, .int .i64 0, .int .i64 0, .int .i64 0, .int .u64 0, .int .u64 0, .int .u64 0, .int .u64 0, .int .u64 0, .int .u64 0, .int .i64 0, .int .i64 0] 60)
  have hR := Blk.new (w.alloc (.cells #[.int .i64 (33), .int .i64 ok, .int .i64 oa, .int .i64 ob, .int .i64 oc, .int .u64 a, .int .u64 b, .int .u64 c, .int .u64 n, .int .u64 ((wAt s.ws 4)), .int .u64 p, .int .i64 back, .int .i64 ret] 60)) [.int .i64 0, .int .i64 0, .int .i64 0, .int .i64 0, .int .i64 0, .int .u64 0, .int .u64 0, .int .u64 0, .int .u64 0, .int .u64 0, .int .u64 0, .int .i64 0, .int .i64 0] 60
  simp only [World.size_alloc] at hR
  have hFF := ((Fr.refl [r, rd] w).alloc (.cells #[.int .i64 (33), .int .i64 ok, .int .i64 oa, .int .i64 ob, .int .i64 oc, .int .u64 a, .int .u64 b, .int .u64 c, .int .u64 n, .int .u64 ((wAt s.ws 4)), .int .u64 p, .int .i64 back, .int .i64 ret] 60)).alloc (.cells #[.int .i64 0, .int .i64 0, .int .i64 0, .int .i64 0, .int .i64 0, .int .u64 0, .int .u64 0, .int .u64 0, .int .u64 0, .int .u64 0, .int .u64 0, .int .i64 0, .int .i64 0] 60)
  have a1 : r ≠ w.heap.size := by omega
  have a2 : rd ≠ w.heap.size := by omega
  have b1 : r ≠ w.heap.size + 1 := by omega
  have b2 : rd ≠ w.heap.size + 1 := by omega
  have d1 : ¬ w.heap.size = r := by omega
  have d2 : ¬ w.heap.size = rd := by omega
  have d3 : ¬ w.heap.size + 1 = r := by omega
  have d4 : ¬ w.heap.size + 1 = rd := by omega
  go_enter Try.func46, Try.ntmps46
  go_wp2_with (first | (go_at_call 52; refine (rhload_any HH _).mono ?_; rintro e w2 ⟨rfl, HH, hF2⟩; (have hX := hX.kept hF2 hXn); (have hR := hR.kept hF2 hRn); (have hFF := hFF.trans hF2); (have kX := hX.cell); (have fX := hX.free); (have kR := hR.cell); (have fR := hR.free)))
  refine bodyPost_ret (v := .tuple #[.agg #[.int .i64 (34), .int .i64 ok, .int .i64 oa, .int .i64 ob, .int .i64 oc, .int .u64 a, .int .u64 b, .int .u64 c, .int .u64 n, .int .u64 ((wAt s.ws 4)), .int .u64 p, .int .i64 back, .int .i64 ret], .bool true]) (by simp [results, Try.results46, go_sem, kX, kR]) rfl ⟨rfl, ?_, ?_⟩
  · repeat (first | with_reducible exact HH | with_reducible refine RAt.other ?_ a1 a2 _ | with_reducible refine RAt.other ?_ b1 b2 _)
  · repeat (first | with_reducible exact hFF | with_reducible refine Fr.setNew ?_ (Nat.le_refl _) _ | with_reducible refine Fr.setNew ?_ (Nat.le_succ _) _)

theorem rtk33n {w : World} {r rd cap : Nat} {ext : List Value} {s : HS} (H : RAt w r rd cap ext s)  (ok oa ob oc a b c n t p back ret : Int) (ht : ¬ wAt s.ws 4 = t) :
    Calls Try.prog 46 #[.pointer (some ⟨r, 0, none⟩), .agg #[.int .i64 (33), .int .i64 ok, .int .i64 oa, .int .i64 ob, .int .i64 oc, .int .u64 a, .int .u64 b, .int .u64 c, .int .u64 n, .int .u64 t, .int .u64 p, .int .i64 back, .int .i64 ret]] w fun e w' => e = .returned (.tuple #[.agg #[.int .i64 (33), .int .i64 ok, .int .i64 oa, .int .i64 ob, .int .i64 oc, .int .u64 a, .int .u64 b, .int .u64 c, .int .u64 n, .int .u64 t, .int .u64 p, .int .i64 back, .int .i64 ret], .bool true]) ∧ (RAt w' r rd cap ext (s.doIt (aLoad 4)) ∧ Fr [r, rd] w w') := by
  have n0 := H.blk.lt
  have n1 := H.ar.dat.lt
  have hXn : w.heap.size ∉ [r, rd] := by simp; omega
  have hRn : w.heap.size + 1 ∉ [r, rd] := by simp; omega
  have HH := (H.alloc (.cells #[.int .i64 (33), .int .i64 ok, .int .i64 oa, .int .i64 ob, .int .i64 oc, .int .u64 a, .int .u64 b, .int .u64 c, .int .u64 n, .int .u64 t, .int .u64 p, .int .i64 back, .int .i64 ret] 60)).alloc (.cells #[.int .i64 0, .int .i64 0, .int .i64 0, .int .i64 0, .int .i64 0, .int .u64 0, .int .u64 0, .int .u64 0, .int .u64 0, .int .u64 0, .int .u64 0, .int .i64 0, .int .i64 0] 60)
  have hX := (Blk.new w [.int .i64 (33), .int .i64 ok, .int .i64 oa, .int .i64 ob, .int .i64 oc, .int .u64 a, .int .u64 b, .int .u64 c, .int .u64 n, .int .u64 t, .int .u64 p, .int .i64 back, .int .i64 ret] 60).alloc (.cells #[.int .i64 0, .int .i64 0, .int .i64 0, .int .i64 0, .int .i64 0, .int .u64 0, .int .u64 0, .int .u64 0, .int .u64 0, .int .u64 0, .int .u64 0, .int .i64 0, .int .i64 0] 60)
  have hR := Blk.new (w.alloc (.cells #[.int .i64 (33), .int .i64 ok, .int .i64 oa, .int .i64 ob, .int .i64 oc, .int .u64 a, .int .u64 b, .int .u64 c, .int .u64 n, .int .u64 t, .int .u64 p, .int .i64 back, .int .i64 ret] 60)) [.int .i64 0, .int .i64 0, .int .i64 0, .int .i64 0, .int .i64 0, .int .u64 0, .int .u64 0, .int .u64 0, .int .u64 0, .int .u64 0, .int .u64 0, .int .i64 0, .int .i64 0] 60
  simp only [World.size_alloc] at hR
  have hFF := ((Fr.refl [r, rd] w).alloc (.cells #[.int .i64 (33), .int .i64 ok, .int .i64 oa, .int .i64 ob, .int .i64 oc, .int .u64 a, .int .u64 b, .int .u64 c, .int .u64 n, .int .u64 t, .int .u64 p, .int .i64 back, .int .i64 ret] 60)).alloc (.cells #[.int .i64 0, .int .i64 0, .int .i64 0, .int .i64 0, .int .i64 0, .int .u64 0, .int .u64 0, .int .u64 0, .int .u64 0, .int .u64 0, .int .u64 0, .int .i64 0, .int .i64 0] 60)
  have a1 : r ≠ w.heap.size := by omega
  have a2 : rd ≠ w.heap.size := by omega
  have b1 : r ≠ w.heap.size + 1 := by omega
  have b2 : rd ≠ w.heap.size + 1 := by omega
  have d1 : ¬ w.heap.size = r := by omega
  have d2 : ¬ w.heap.size = rd := by omega
  have d3 : ¬ w.heap.size + 1 = r := by omega
  have d4 : ¬ w.heap.size + 1 = rd := by omega
  go_enter Try.func46, Try.ntmps46
  go_wp2_with (first | (go_at_call 52; refine (rhload_any HH _).mono ?_; rintro e w2 ⟨rfl, HH, hF2⟩; (have hX := hX.kept hF2 hXn); (have hR := hR.kept hF2 hRn); (have hFF := hFF.trans hF2); (have kX := hX.cell); (have fX := hX.free); (have kR := hR.cell); (have fR := hR.free)))
  refine bodyPost_ret (v := .tuple #[.agg #[.int .i64 (33), .int .i64 ok, .int .i64 oa, .int .i64 ob, .int .i64 oc, .int .u64 a, .int .u64 b, .int .u64 c, .int .u64 n, .int .u64 t, .int .u64 p, .int .i64 back, .int .i64 ret], .bool true]) (by simp [results, Try.results46, go_sem, kX, kR]) rfl ⟨rfl, ?_, ?_⟩
  · repeat (first | with_reducible exact HH | with_reducible refine RAt.other ?_ a1 a2 _ | with_reducible refine RAt.other ?_ b1 b2 _)
  · repeat (first | with_reducible exact hFF | with_reducible refine Fr.setNew ?_ (Nat.le_refl _) _ | with_reducible refine Fr.setNew ?_ (Nat.le_succ _) _)

theorem rtk37 {w : World} {r rd cap : Nat} {ext : List Value} {s : HS} (H : RAt w r rd cap ext s)  (ok oa ob oc a b c n t p back ret : Int)  :
    Calls Try.prog 46 #[.pointer (some ⟨r, 0, none⟩), .agg #[.int .i64 (37), .int .i64 ok, .int .i64 oa, .int .i64 ob, .int .i64 oc, .int .u64 a, .int .u64 b, .int .u64 c, .int .u64 n, .int .u64 t, .int .u64 p, .int .i64 back, .int .i64 ret]] w fun e w' => e = .returned (.tuple #[.agg #[.int .i64 (38), .int .i64 ok, .int .i64 oa, .int .i64 ob, .int .i64 oc, .int .u64 a, .int .u64 b, .int .u64 c, .int .u64 n, .int .u64 t, .int .u64 p, .int .i64 back, .int .i64 ret], .bool true]) ∧ (RAt w' r rd cap ext (s.doIt (aAdd 4 1)) ∧ Fr [r, rd] w w') := by
  have n0 := H.blk.lt
  have n1 := H.ar.dat.lt
  have hXn : w.heap.size ∉ [r, rd] := by simp; omega
  have hRn : w.heap.size + 1 ∉ [r, rd] := by simp; omega
  have HH := (H.alloc (.cells #[.int .i64 (37), .int .i64 ok, .int .i64 oa, .int .i64 ob, .int .i64 oc, .int .u64 a, .int .u64 b, .int .u64 c, .int .u64 n, .int .u64 t, .int .u64 p, .int .i64 back, .int .i64 ret] 60)).alloc (.cells #[.int .i64 0, .int .i64 0, .int .i64 0, .int .i64 0, .int .i64 0, .int .u64 0, .int .u64 0, .int .u64 0, .int .u64 0, .int .u64 0, .int .u64 0, .int .i64 0, .int .i64 0] 60)
  have hX := (Blk.new w [.int .i64 (37), .int .i64 ok, .int .i64 oa, .int .i64 ob, .int .i64 oc, .int .u64 a, .int .u64 b, .int .u64 c, .int .u64 n, .int .u64 t, .int .u64 p, .int .i64 back, .int .i64 ret] 60).alloc (.cells #[.int .i64 0, .int .i64 0, .int .i64 0, .int .i64 0, .int .i64 0, .int .u64 0, .int .u64 0, .int .u64 0, .int .u64 0, .int .u64 0, .int .u64 0, .int .i64 0, .int .i64 0] 60)
  have hR := Blk.new (w.alloc (.cells #[.int .i64 (37), .int .i64 ok, .int .i64 oa, .int .i64 ob, .int .i64 oc, .int .u64 a, .int .u64 b, .int .u64 c, .int .u64 n, .int .u64 t, .int .u64 p, .int .i64 back, .int .i64 ret] 60)) [.int .i64 0, .int .i64 0, .int .i64 0, .int .i64 0, .int .i64 0, .int .u64 0, .int .u64 0, .int .u64 0, .int .u64 0, .int .u64 0, .int .u64 0, .int .i64 0, .int .i64 0] 60
  simp only [World.size_alloc] at hR
  have hFF := ((Fr.refl [r, rd] w).alloc (.cells #[.int .i64 (37), .int .i64 ok, .int .i64 oa, .int .i64 ob, .int .i64 oc, .int .u64 a, .int .u64 b, .int .u64 c, .int .u64 n, .int .u64 t, .int .u64 p, .int .i64 back, .int .i64 ret] 60)).alloc (.cells #[.int .i64 0, .int .i64 0, .int .i64 0, .int .i64 0, .int .i64 0, .int .u64 0, .int .u64 0, .int .u64 0, .int .u64 0, .int .u64 0, .int .u64 0, .int .i64 0, .int .i64 0] 60)
  have a1 : r ≠ w.heap.size := by omega
  have a2 : rd ≠ w.heap.size := by omega
  have b1 : r ≠ w.heap.size + 1 := by omega
  have b2 : rd ≠ w.heap.size + 1 := by omega
  have d1 : ¬ w.heap.size = r := by omega
  have d2 : ¬ w.heap.size = rd := by omega
  have d3 : ¬ w.heap.size + 1 = r := by omega
  have d4 : ¬ w.heap.size + 1 = rd := by omega
  go_enter Try.func46, Try.ntmps46
  go_wp2_with (first | (go_at_call 58; refine (rhadd_any HH _ _ (by omega)).mono ?_; rintro e w2 ⟨rfl, HH, hF2⟩; (have hX := hX.kept hF2 hXn); (have hR := hR.kept hF2 hRn); (have hFF := hFF.trans hF2); (have kX := hX.cell); (have fX := hX.free); (have kR := hR.cell); (have fR := hR.free)))
  refine bodyPost_ret (v := .tuple #[.agg #[.int .i64 (38), .int .i64 ok, .int .i64 oa, .int .i64 ob, .int .i64 oc, .int .u64 a, .int .u64 b, .int .u64 c, .int .u64 n, .int .u64 t, .int .u64 p, .int .i64 back, .int .i64 ret], .bool true]) (by simp [results, Try.results46, go_sem, kX, kR]) rfl ⟨rfl, ?_, ?_⟩
  · repeat (first | with_reducible exact HH | with_reducible refine RAt.other ?_ a1 a2 _ | with_reducible refine RAt.other ?_ b1 b2 _)
  · repeat (first | with_reducible exact hFF | with_reducible refine Fr.setNew ?_ (Nat.le_refl _) _ | with_reducible refine Fr.setNew ?_ (Nat.le_succ _) _)

theorem rtk41 {w : World} {r rd cap : Nat} {ext : List Value} {s : HS} (H : RAt w r rd cap ext s)  (ok oa ob oc a b c n t p back ret : Int)  :
    Calls Try.prog 46 #[.pointer (some ⟨r, 0, none⟩), .agg #[.int .i64 (41), .int .i64 ok, .int .i64 oa, .int .i64 ob, .int .i64 oc, .int .u64 a, .int .u64 b, .int .u64 c, .int .u64 n, .int .u64 t, .int .u64 p, .int .i64 back, .int .i64 ret]] w fun e w' => e = .returned (.tuple #[.agg #[.int .i64 (90), .int .i64 ok, .int .i64 oa, .int .i64 ob, .int .i64 oc, .int .u64 a, .int .u64 b, .int .u64 c, .int .u64 n, .int .u64 t, .int .u64 p, .int .i64 back, .int .i64 ret], .bool true]) ∧ (RAt w' r rd cap ext (s.doIt (aAdd 4 1)) ∧ Fr [r, rd] w w') := by
  have n0 := H.blk.lt
  have n1 := H.ar.dat.lt
  have hXn : w.heap.size ∉ [r, rd] := by simp; omega
  have hRn : w.heap.size + 1 ∉ [r, rd] := by simp; omega
  have HH := (H.alloc (.cells #[.int .i64 (41), .int .i64 ok, .int .i64 oa, .int .i64 ob, .int .i64 oc, .int .u64 a, .int .u64 b, .int .u64 c, .int .u64 n, .int .u64 t, .int .u64 p, .int .i64 back, .int .i64 ret] 60)).alloc (.cells #[.int .i64 0, .int .i64 0, .int .i64 0, .int .i64 0, .int .i64 0, .int .u64 0, .int .u64 0, .int .u64 0, .int .u64 0, .int .u64 0, .int .u64 0, .int .i64 0, .int .i64 0] 60)
  have hX := (Blk.new w [.int .i64 (41), .int .i64 ok, .int .i64 oa, .int .i64 ob, .int .i64 oc, .int .u64 a, .int .u64 b, .int .u64 c, .int .u64 n, .int .u64 t, .int .u64 p, .int .i64 back, .int .i64 ret] 60).alloc (.cells #[.int .i64 0, .int .i64 0, .int .i64 0, .int .i64 0, .int .i64 0, .int .u64 0, .int .u64 0, .int .u64 0, .int .u64 0, .int .u64 0, .int .u64 0, .int .i64 0, .int .i64 0] 60)
  have hR := Blk.new (w.alloc (.cells #[.int .i64 (41), .int .i64 ok, .int .i64 oa, .int .i64 ob, .int .i64 oc, .int .u64 a, .int .u64 b, .int .u64 c, .int .u64 n, .int .u64 t, .int .u64 p, .int .i64 back, .int .i64 ret] 60)) [.int .i64 0, .int .i64 0, .int .i64 0, .int .i64 0, .int .i64 0, .int .u64 0, .int .u64 0, .int .u64 0, .int .u64 0, .int .u64 0, .int .u64 0, .int .i64 0, .int .i64 0] 60
  simp only [World.size_alloc] at hR
  have hFF := ((Fr.refl [r, rd] w).alloc (.cells #[.int .i64 (41), .int .i64 ok, .int .i64 oa, .int .i64 ob, .int .i64 oc, .int .u64 a, .int .u64 b, .int .u64 c, .int .u64 n, .int .u64 t, .int .u64 p, .int .i64 back, .int .i64 ret] 60)).alloc (.cells #[.int .i64 0, .int .i64 0, .int .i64 0, .int .i64 0, .int .i64 0, .int .u64 0, .int .u64 0, .int .u64 0, .int .u64 0, .int .u64 0, .int .u64 0, .int .i64 0, .int .i64 0] 60)
  have a1 : r ≠ w.heap.size := by omega
  have a2 : rd ≠ w.heap.size := by omega
  have b1 : r ≠ w.heap.size + 1 := by omega
  have b2 : rd ≠ w.heap.size + 1 := by omega
  have d1 : ¬ w.heap.size = r := by omega
  have d2 : ¬ w.heap.size = rd := by omega
  have d3 : ¬ w.heap.size + 1 = r := by omega
  have d4 : ¬ w.heap.size + 1 = rd := by omega
  go_enter Try.func46, Try.ntmps46
  go_wp2_with (first | (go_at_call 58; refine (rhadd_any HH _ _ (by omega)).mono ?_; rintro e w2 ⟨rfl, HH, hF2⟩; (have hX := hX.kept hF2 hXn); (have hR := hR.kept hF2 hRn); (have hFF := hFF.trans hF2); (have kX := hX.cell); (have fX := hX.free); (have kR := hR.cell); (have fR := hR.free)))
  refine bodyPost_ret (v := .tuple #[.agg #[.int .i64 (90), .int .i64 ok, .int .i64 oa, .int .i64 ob, .int .i64 oc, .int .u64 a, .int .u64 b, .int .u64 c, .int .u64 n, .int .u64 t, .int .u64 p, .int .i64 back, .int .i64 ret], .bool true]) (by simp [results, Try.results46, go_sem, kX, kR]) rfl ⟨rfl, ?_, ?_⟩
  · repeat (first | with_reducible exact HH | with_reducible refine RAt.other ?_ a1 a2 _ | with_reducible refine RAt.other ?_ b1 b2 _)
  · repeat (first | with_reducible exact hFF | with_reducible refine Fr.setNew ?_ (Nat.le_refl _) _ | with_reducible refine Fr.setNew ?_ (Nat.le_succ _) _)

theorem rtkno {w : World} {r rd cap : Nat} {ext : List Value} {s : HS} (H : RAt w r rd cap ext s)  (line ok oa ob oc a b c n t p back ret : Int) (k1 : ¬ line = 32) (k2 : ¬ line = 33) (k3 : ¬ line = 37) (k4 : ¬ line = 41) :
    Calls Try.prog 46 #[.pointer (some ⟨r, 0, none⟩), .agg #[.int .i64 line, .int .i64 ok, .int .i64 oa, .int .i64 ob, .int .i64 oc, .int .u64 a, .int .u64 b, .int .u64 c, .int .u64 n, .int .u64 t, .int .u64 p, .int .i64 back, .int .i64 ret]] w fun e w' => e = .returned (.tuple #[.agg #[.int .i64 line, .int .i64 ok, .int .i64 oa, .int .i64 ob, .int .i64 oc, .int .u64 a, .int .u64 b, .int .u64 c, .int .u64 n, .int .u64 t, .int .u64 p, .int .i64 back, .int .i64 ret], .bool false]) ∧ (RAt w' r rd cap ext (s) ∧ Fr [r, rd] w w') := by
  have n0 := H.blk.lt
  have n1 := H.ar.dat.lt
  have hXn : w.heap.size ∉ [r, rd] := by simp; omega
  have hRn : w.heap.size + 1 ∉ [r, rd] := by simp; omega
  have HH := (H.alloc (.cells #[.int .i64 line, .int .i64 ok, .int .i64 oa, .int .i64 ob, .int .i64 oc, .int .u64 a, .int .u64 b, .int .u64 c, .int .u64 n, .int .u64 t, .int .u64 p, .int .i64 back, .int .i64 ret] 60)).alloc (.cells #[.int .i64 0, .int .i64 0, .int .i64 0, .int .i64 0, .int .i64 0, .int .u64 0, .int .u64 0, .int .u64 0, .int .u64 0, .int .u64 0, .int .u64 0, .int .i64 0, .int .i64 0] 60)
  have hX := (Blk.new w [.int .i64 line, .int .i64 ok, .int .i64 oa, .int .i64 ob, .int .i64 oc, .int .u64 a, .int .u64 b, .int .u64 c, .int .u64 n, .int .u64 t, .int .u64 p, .int .i64 back, .int .i64 ret] 60).alloc (.cells #[.int .i64 0, .int .i64 0, .int .i64 0, .int .i64 0, .int .i64 0, .int .u64 0, .int .u64 0, .int .u64 0, .int .u64 0, .int .u64 0, .int .u64 0, .int .i64 0, .int .i64 0] 60)
  have hR := Blk.new (w.alloc (.cells #[.int .i64 line, .int .i64 ok, .int .i64 oa, .int .i64 ob, .int .i64 oc, .int .u64 a, .int .u64 b, .int .u64 c, .int .u64 n, .int .u64 t, .int .u64 p, .int .i64 back, .int .i64 ret] 60)) [.int .i64 0, .int .i64 0, .int .i64 0, .int .i64 0, .int .i64 0, .int .u64 0, .int .u64 0, .int .u64 0, .int .u64 0, .int .u64 0, .int .u64 0, .int .i64 0, .int .i64 0] 60
  simp only [World.size_alloc] at hR
  have hFF := ((Fr.refl [r, rd] w).alloc (.cells #[.int .i64 line, .int .i64 ok, .int .i64 oa, .int .i64 ob, .int .i64 oc, .int .u64 a, .int .u64 b, .int .u64 c, .int .u64 n, .int .u64 t, .int .u64 p, .int .i64 back, .int .i64 ret] 60)).alloc (.cells #[.int .i64 0, .int .i64 0, .int .i64 0, .int .i64 0, .int .i64 0, .int .u64 0, .int .u64 0, .int .u64 0, .int .u64 0, .int .u64 0, .int .u64 0, .int .i64 0, .int .i64 0] 60)
  have a1 : r ≠ w.heap.size := by omega
  have a2 : rd ≠ w.heap.size := by omega
  have b1 : r ≠ w.heap.size + 1 := by omega
  have b2 : rd ≠ w.heap.size + 1 := by omega
  have d1 : ¬ w.heap.size = r := by omega
  have d2 : ¬ w.heap.size = rd := by omega
  have d3 : ¬ w.heap.size + 1 = r := by omega
  have d4 : ¬ w.heap.size + 1 = rd := by omega
  go_enter Try.func46, Try.ntmps46
  go_wp2
  refine bodyPost_ret (v := .tuple #[.agg #[.int .i64 line, .int .i64 ok, .int .i64 oa, .int .i64 ob, .int .i64 oc, .int .u64 a, .int .u64 b, .int .u64 c, .int .u64 n, .int .u64 t, .int .u64 p, .int .i64 back, .int .i64 ret], .bool false]) (by simp [results, Try.results46, go_sem]) rfl ⟨rfl, ?_, ?_⟩
  · exact (H.alloc _).alloc _
  · exact ((Fr.refl _ _).alloc _).alloc _

end Go.Proofs.Ytciojmdppfgelaa
