/- ticket.Step, Wants, Holds. -/
import Derived.Test.YtolkgdchinaonaaHandNew
import Derived.Test.YtolkgdchinaonaaMapI
namespace Go.Proofs.Ytolkgdchinaonaa
open Go.RowKit
set_option linter.unusedVariables false
set_option linter.unusedSimpArgs false

theorem tk32 {w : World} {h ab db : Nat} {s : HS} (H : HAt w h ab db s)  (ok oa ob oc a b c n t p back ret : Int)  :
    Calls Try.prog 35 #[.pointer (some ⟨h, 0, none⟩), .agg #[.int .i64 (32), .int .i64 ok, .int .i64 oa, .int .i64 ob, .int .i64 oc, .int .u64 a, .int .u64 b, .int .u64 c, .int .u64 n, .int .u64 t, .int .u64 p, .int .i64 back, .int .i64 ret]] w fun e w' => e = .returned (.tuple #[.agg #[.int .i64 (33), .int .i64 ok, .int .i64 oa, .int .i64 ob, .int .i64 oc, .int .u64 a, .int .u64 b, .int .u64 c, .int .u64 n, .int .u64 (wAt s.ws 3), .int .u64 p, .int .i64 back, .int .i64 ret], .bool true]) ∧ (HAt w' h ab db (s.doIt (aAdd 3 1)) ∧ Fr [h, db] w w') := by
  have n0 := H.blk.lt
  have n1 := H.ar.dat.lt
  have n2 := H.ar.hdr.lt
  have hXn : w.heap.size ∉ [h, db] := by simp; omega
  have hRn : w.heap.size + 1 ∉ [h, db] := by simp; omega
  have HH := (H.alloc (.cells #[.int .i64 (32), .int .i64 ok, .int .i64 oa, .int .i64 ob, .int .i64 oc, .int .u64 a, .int .u64 b, .int .u64 c, .int .u64 n, .int .u64 t, .int .u64 p, .int .i64 back, .int .i64 ret] 54)).alloc (.cells #[.int .i64 0, .int .i64 0, .int .i64 0, .int .i64 0, .int .i64 0, .int .u64 0, .int .u64 0, .int .u64 0, .int .u64 0, .int .u64 0, .int .u64 0, .int .i64 0, .int .i64 0] 54)
  have hX := (Blk.new w [.int .i64 (32), .int .i64 ok, .int .i64 oa, .int .i64 ob, .int .i64 oc, .int .u64 a, .int .u64 b, .int .u64 c, .int .u64 n, .int .u64 t, .int .u64 p, .int .i64 back, .int .i64 ret] 54).alloc (.cells #[.int .i64 0, .int .i64 0, .int .i64 0, .int .i64 0, .int .i64 0, .int .u64 0, .int .u64 0, .int .u64 0, .int .u64 0, .int .u64 0, .int .u64 0, .int .i64 0, .int .i64 0] 54)
  have hR := Blk.new (w.alloc (.cells #[.int .i64 (32), .int .i64 ok, .int .i64 oa, .int .i64 ob, .int .i64 oc, .int .u64 a, .int .u64 b, .int .u64 c, .int .u64 n, .int .u64 t, .int .u64 p, .int .i64 back, .int .i64 ret] 54)) [.int .i64 0, .int .i64 0, .int .i64 0, .int .i64 0, .int .i64 0, .int .u64 0, .int .u64 0, .int .u64 0, .int .u64 0, .int .u64 0, .int .u64 0, .int .i64 0, .int .i64 0] 54
  simp only [World.size_alloc] at hR
  have hFF := ((Fr.refl [h, db] w).alloc (.cells #[.int .i64 (32), .int .i64 ok, .int .i64 oa, .int .i64 ob, .int .i64 oc, .int .u64 a, .int .u64 b, .int .u64 c, .int .u64 n, .int .u64 t, .int .u64 p, .int .i64 back, .int .i64 ret] 54)).alloc (.cells #[.int .i64 0, .int .i64 0, .int .i64 0, .int .i64 0, .int .i64 0, .int .u64 0, .int .u64 0, .int .u64 0, .int .u64 0, .int .u64 0, .int .u64 0, .int .i64 0, .int .i64 0] 54)
  have a1 : h ≠ w.heap.size := by omega
  have a2 : db ≠ w.heap.size := by omega
  have a3 : ab ≠ w.heap.size := by omega
  have b1 : h ≠ w.heap.size + 1 := by omega
  have b2 : db ≠ w.heap.size + 1 := by omega
  have b3 : ab ≠ w.heap.size + 1 := by omega
  have d1 : ¬ w.heap.size = h := by omega
  have d2 : ¬ w.heap.size = db := by omega
  have d3 : ¬ w.heap.size + 1 = h := by omega
  have d4 : ¬ w.heap.size + 1 = db := by omega
  go_enter Try.func35, Try.ntmps35
  go_wp2_with (first | (go_at_call 125; refine (hadd_any HH _ _ (by omega)).mono ?_; rintro e w2 ⟨rfl, HH, hF2⟩; (have hX := hX.kept hF2 hXn); (have hR := hR.kept hF2 hRn); (have hFF := hFF.trans hF2); (have kX := hX.cell); (have fX := hX.free); (have kR := hR.cell); (have fR := hR.free)))
  refine bodyPost_ret (v := .tuple #[.agg #[.int .i64 (33), .int .i64 ok, .int .i64 oa, .int .i64 ob, .int .i64 oc, .int .u64 a, .int .u64 b, .int .u64 c, .int .u64 n, .int .u64 (wAt s.ws 3), .int .u64 p, .int .i64 back, .int .i64 ret], .bool true]) (by simp [results, Try.results35, go_sem, kX, kR]) rfl ⟨rfl, ?_, ?_⟩
  · repeat (first | with_reducible exact HH | with_reducible refine HAt.other ?_ a1 a3 a2 _ | with_reducible refine HAt.other ?_ b1 b3 b2 _)
  · repeat (first | with_reducible exact hFF | with_reducible refine Fr.setNew ?_ (Nat.le_refl _) _ | with_reducible refine Fr.setNew ?_ (Nat.le_succ _) _)

theorem tk33y {w : World} {h ab db : Nat} {s : HS} (H : HAt w h ab db s)  (ok oa ob oc a b c n p back ret : Int)  :
    Calls Try.prog 35 #[.pointer (some ⟨h, 0, none⟩), .agg #[.int .i64 (33), .int .i64 ok, .int .i64 oa, .int .i64 ob, .int .i64 oc, .int .u64 a, .int .u64 b, .int .u64 c, .int .u64 n, .int .u64 ((wAt s.ws 4)), .int .u64 p, .int .i64 back, .int .i64 ret]] w fun e w' => e = .returned (.tuple #[.agg #[.int .i64 (34), .int .i64 ok, .int .i64 oa, .int .i64 ob, .int .i64 oc, .int .u64 a, .int .u64 b, .int .u64 c, .int .u64 n, .int .u64 ((wAt s.ws 4)), .int .u64 p, .int .i64 back, .int .i64 ret], .bool true]) ∧ (HAt w' h ab db (s.doIt (aLoad 4)) ∧ Fr [h, db] w w') := by
  have n0 := H.blk.lt
  have n1 := H.ar.dat.lt
  have n2 := H.ar.hdr.lt
  have hXn : w.heap.size ∉ [h, db] := by simp; omega
  have hRn : w.heap.size + 1 ∉ [h, db] := by simp; omega
  have HH := (H.alloc (.cells #[.int .i64 (33), .int .i64 ok, .int .i64 oa, .int .i64 ob, .int .i64 oc, .int .u64 a, .int .u64 b, .int .u64 c, .int .u64 n, .int .u64 ((wAt s.ws 4)), .int .u64 p, .int .i64 back, .int .i64 ret] 54)).alloc (.cells #[.int .i64 0, .int .i64 0, .int .i64 0, .int .i64 0, .int .i64 0, .int .u64 0, .int .u64 0, .int .u64 0, .int .u64 0, .int .u64 0, .int .u64 0, .int .i64 0, .int .i64 0] 54)
  have hX := (Blk.new w [.int .i64 (33), .int .i64 ok, .int .i64 oa, .int .i64 ob, .int .i64 oc, .int .u64 a, .int .u64 b, .int .u64 c, .int .u64 n, .int .u64 ((wAt s.ws 4)), .int .u64 p, .int .i64 back, .int .i64 ret] 54).alloc (.cells #[.int .i64 0, .int .i64 0, .int .i64 0, .int .i64 0, .int .i64 0, .int .u64 0, .int .u64 0, .int .u64 0, .int .u64 0, .int .u64 0, .int .u64 0, .int .i64 0, .int .i64 0] 54)
  have hR := Blk.new (w.alloc (.cells #[.int .i64 (33), .int .i64 ok, .int .i64 oa, .int .i64 ob, .int .i64 oc, .int .u64 a, .int .u64 b, .int .u64 c, .int .u64 n, .int .u64 ((wAt s.ws 4)), .int .u64 p, .int .i64 back, .int .i64 ret] 54)) [.int .i64 0, .int .i64 0, .int .i64 0, .int .i64 0, .int .i64 0, .int .u64 0, .int .u64 0, .int .u64 0, .int .u64 0, .int .u64 0, .int .u64 0, .int .i64 0, .int .i64 0] 54
  simp only [World.size_alloc] at hR
  have hFF := ((Fr.refl [h, db] w).alloc (.cells #[.int .i64 (33), .int .i64 ok, .int .i64 oa, .int .i64 ob, .int .i64 oc, .int .u64 a, .int .u64 b, .int .u64 c, .int .u64 n, .int .u64 ((wAt s.ws 4)), .int .u64 p, .int .i64 back, .int .i64 ret] 54)).alloc (.cells #[.int .i64 0, .int .i64 0, .int .i64 0, .int .i64 0, .int .i64 0, .int .u64 0, .int .u64 0, .int .u64 0, .int .u64 0, .int .u64 0, .int .u64 0, .int .i64 0, .int .i64 0] 54)
  have a1 : h ≠ w.heap.size := by omega
  have a2 : db ≠ w.heap.size := by omega
  have a3 : ab ≠ w.heap.size := by omega
  have b1 : h ≠ w.heap.size + 1 := by omega
  have b2 : db ≠ w.heap.size + 1 := by omega
  have b3 : ab ≠ w.heap.size + 1 := by omega
  have d1 : ¬ w.heap.size = h := by omega
  have d2 : ¬ w.heap.size = db := by omega
  have d3 : ¬ w.heap.size + 1 = h := by omega
  have d4 : ¬ w.heap.size + 1 = db := by omega
  go_enter Try.func35, Try.ntmps35
  go_wp2_with (first | (go_at_call 126; refine (hload_any HH _).mono ?_; rintro e w2 ⟨rfl, HH, hF2⟩; (have hX := hX.kept hF2 hXn); (have hR := hR.kept hF2 hRn); (have hFF := hFF.trans hF2); (have kX := hX.cell); (have fX := hX.free); (have kR := hR.cell); (have fR := hR.free)))
  have HH := HH.drew
  have hX := hX.drew
  have hR := hR.drew
  have hFF := hFF.drew
  have kX := hX.cell
  have fX := hX.free
  have kR := hR.cell
  have fR := hR.free
  go_region_with (first | (go_at_call 126; refine (hload_any HH _).mono ?_; rintro e w2 ⟨rfl, HH, hF2⟩; (have hX := hX.kept hF2 hXn); (have hR := hR.kept hF2 hRn); (have hFF := hFF.trans hF2); (have kX := hX.cell); (have fX := hX.free); (have kR := hR.cell); (have fR := hR.free)))
  all_goals go_wp2_with (first | (go_at_call 126; refine (hload_any HH _).mono ?_; rintro e w2 ⟨rfl, HH, hF2⟩; (have hX := hX.kept hF2 hXn); (have hR := hR.kept hF2 hRn); (have hFF := hFF.trans hF2); (have kX := hX.cell); (have fX := hX.free); (have kR := hR.cell); (have fR := hR.free)))
  all_goals
    refine bodyPost_ret (v := .tuple #[.agg #[.int .i64 (34), .int .i64 ok, .int .i64 oa, .int .i64 ob, .int .i64 oc, .int .u64 a, .int .u64 b, .int .u64 c, .int .u64 n, .int .u64 ((wAt s.ws 4)), .int .u64 p, .int .i64 back, .int .i64 ret], .bool true]) (by simp [results, Try.results35, go_sem, kX, kR]) rfl ⟨rfl, ?_, ?_⟩
    · repeat (first | with_reducible exact HH | with_reducible refine HAt.other ?_ a1 a3 a2 _ | with_reducible refine HAt.other ?_ b1 b3 b2 _)
    · repeat (first | with_reducible exact hFF | with_reducible refine Fr.setNew ?_ (Nat.le_refl _) _ | with_reducible refine Fr.setNew ?_ (Nat.le_succ _) _)

theorem tk33n {w : World} {h ab db : Nat} {s : HS} (H : HAt w h ab db s)  (ok oa ob oc a b c n t p back ret : Int) (ht : ¬ wAt s.ws 4 = t) :
    Calls Try.prog 35 #[.pointer (some ⟨h, 0, none⟩), .agg #[.int .i64 (33), .int .i64 ok, .int .i64 oa, .int .i64 ob, .int .i64 oc, .int .u64 a, .int .u64 b, .int .u64 c, .int .u64 n, .int .u64 t, .int .u64 p, .int .i64 back, .int .i64 ret]] w fun e w' => e = .returned (.tuple #[.agg #[.int .i64 (33), .int .i64 ok, .int .i64 oa, .int .i64 ob, .int .i64 oc, .int .u64 a, .int .u64 b, .int .u64 c, .int .u64 n, .int .u64 t, .int .u64 p, .int .i64 back, .int .i64 ret], .bool true]) ∧ (HAt w' h ab db (s.doIt (aLoad 4)) ∧ Fr [h, db] w w') := by
  have n0 := H.blk.lt
  have n1 := H.ar.dat.lt
  have n2 := H.ar.hdr.lt
  have hXn : w.heap.size ∉ [h, db] := by simp; omega
  have hRn : w.heap.size + 1 ∉ [h, db] := by simp; omega
  have HH := (H.alloc (.cells #[.int .i64 (33), .int .i64 ok, .int .i64 oa, .int .i64 ob, .int .i64 oc, .int .u64 a, .int .u64 b, .int .u64 c, .int .u64 n, .int .u64 t, .int .u64 p, .int .i64 back, .int .i64 ret] 54)).alloc (.cells #[.int .i64 0, .int .i64 0, .int .i64 0, .int .i64 0, .int .i64 0, .int .u64 0, .int .u64 0, .int .u64 0, .int .u64 0, .int .u64 0, .int .u64 0, .int .i64 0, .int .i64 0] 54)
  have hX := (Blk.new w [.int .i64 (33), .int .i64 ok, .int .i64 oa, .int .i64 ob, .int .i64 oc, .int .u64 a, .int .u64 b, .int .u64 c, .int .u64 n, .int .u64 t, .int .u64 p, .int .i64 back, .int .i64 ret] 54).alloc (.cells #[.int .i64 0, .int .i64 0, .int .i64 0, .int .i64 0, .int .i64 0, .int .u64 0, .int .u64 0, .int .u64 0, .int .u64 0, .int .u64 0, .int .u64 0, .int .i64 0, .int .i64 0] 54)
  have hR := Blk.new (w.alloc (.cells #[.int .i64 (33), .int .i64 ok, .int .i64 oa, .int .i64 ob, .int .i64 oc, .int .u64 a, .int .u64 b, .int .u64 c, .int .u64 n, .int .u64 t, .int .u64 p, .int .i64 back, .int .i64 ret] 54)) [.int .i64 0, .int .i64 0, .int .i64 0, .int .i64 0, .int .i64 0, .int .u64 0, .int .u64 0, .int .u64 0, .int .u64 0, .int .u64 0, .int .u64 0, .int .i64 0, .int .i64 0] 54
  simp only [World.size_alloc] at hR
  have hFF := ((Fr.refl [h, db] w).alloc (.cells #[.int .i64 (33), .int .i64 ok, .int .i64 oa, .int .i64 ob, .int .i64 oc, .int .u64 a, .int .u64 b, .int .u64 c, .int .u64 n, .int .u64 t, .int .u64 p, .int .i64 back, .int .i64 ret] 54)).alloc (.cells #[.int .i64 0, .int .i64 0, .int .i64 0, .int .i64 0, .int .i64 0, .int .u64 0, .int .u64 0, .int .u64 0, .int .u64 0, .int .u64 0, .int .u64 0, .int .i64 0, .int .i64 0] 54)
  have a1 : h ≠ w.heap.size := by omega
  have a2 : db ≠ w.heap.size := by omega
  have a3 : ab ≠ w.heap.size := by omega
  have b1 : h ≠ w.heap.size + 1 := by omega
  have b2 : db ≠ w.heap.size + 1 := by omega
  have b3 : ab ≠ w.heap.size + 1 := by omega
  have d1 : ¬ w.heap.size = h := by omega
  have d2 : ¬ w.heap.size = db := by omega
  have d3 : ¬ w.heap.size + 1 = h := by omega
  have d4 : ¬ w.heap.size + 1 = db := by omega
  go_enter Try.func35, Try.ntmps35
  go_wp2_with (first | (go_at_call 126; refine (hload_any HH _).mono ?_; rintro e w2 ⟨rfl, HH, hF2⟩; (have hX := hX.kept hF2 hXn); (have hR := hR.kept hF2 hRn); (have hFF := hFF.trans hF2); (have kX := hX.cell); (have fX := hX.free); (have kR := hR.cell); (have fR := hR.free)))
  have HH := HH.drew
  have hX := hX.drew
  have hR := hR.drew
  have hFF := hFF.drew
  have kX := hX.cell
  have fX := hX.free
  have kR := hR.cell
  have fR := hR.free
  go_region_with (first | (go_at_call 126; refine (hload_any HH _).mono ?_; rintro e w2 ⟨rfl, HH, hF2⟩; (have hX := hX.kept hF2 hXn); (have hR := hR.kept hF2 hRn); (have hFF := hFF.trans hF2); (have kX := hX.cell); (have fX := hX.free); (have kR := hR.cell); (have fR := hR.free)))
  all_goals go_wp2_with (first | (go_at_call 126; refine (hload_any HH _).mono ?_; rintro e w2 ⟨rfl, HH, hF2⟩; (have hX := hX.kept hF2 hXn); (have hR := hR.kept hF2 hRn); (have hFF := hFF.trans hF2); (have kX := hX.cell); (have fX := hX.free); (have kR := hR.cell); (have fR := hR.free)))
  all_goals
    refine bodyPost_ret (v := .tuple #[.agg #[.int .i64 (33), .int .i64 ok, .int .i64 oa, .int .i64 ob, .int .i64 oc, .int .u64 a, .int .u64 b, .int .u64 c, .int .u64 n, .int .u64 t, .int .u64 p, .int .i64 back, .int .i64 ret], .bool true]) (by simp [results, Try.results35, go_sem, kX, kR]) rfl ⟨rfl, ?_, ?_⟩
    · repeat (first | with_reducible exact HH | with_reducible refine HAt.other ?_ a1 a3 a2 _ | with_reducible refine HAt.other ?_ b1 b3 b2 _)
    · repeat (first | with_reducible exact hFF | with_reducible refine Fr.setNew ?_ (Nat.le_refl _) _ | with_reducible refine Fr.setNew ?_ (Nat.le_succ _) _)

theorem tk37 {w : World} {h ab db : Nat} {s : HS} (H : HAt w h ab db s)  (ok oa ob oc a b c n t p back ret : Int)  :
    Calls Try.prog 35 #[.pointer (some ⟨h, 0, none⟩), .agg #[.int .i64 (37), .int .i64 ok, .int .i64 oa, .int .i64 ob, .int .i64 oc, .int .u64 a, .int .u64 b, .int .u64 c, .int .u64 n, .int .u64 t, .int .u64 p, .int .i64 back, .int .i64 ret]] w fun e w' => e = .returned (.tuple #[.agg #[.int .i64 (38), .int .i64 ok, .int .i64 oa, .int .i64 ob, .int .i64 oc, .int .u64 a, .int .u64 b, .int .u64 c, .int .u64 n, .int .u64 t, .int .u64 p, .int .i64 back, .int .i64 ret], .bool true]) ∧ (HAt w' h ab db (s.doIt (aAdd 4 1)) ∧ Fr [h, db] w w') := by
  have n0 := H.blk.lt
  have n1 := H.ar.dat.lt
  have n2 := H.ar.hdr.lt
  have hXn : w.heap.size ∉ [h, db] := by simp; omega
  have hRn : w.heap.size + 1 ∉ [h, db] := by simp; omega
  have HH := (H.alloc (.cells #[.int .i64 (37), .int .i64 ok, .int .i64 oa, .int .i64 ob, .int .i64 oc, .int .u64 a, .int .u64 b, .int .u64 c, .int .u64 n, .int .u64 t, .int .u64 p, .int .i64 back, .int .i64 ret] 54)).alloc (.cells #[.int .i64 0, .int .i64 0, .int .i64 0, .int .i64 0, .int .i64 0, .int .u64 0, .int .u64 0, .int .u64 0, .int .u64 0, .int .u64 0, .int .u64 0, .int .i64 0, .int .i64 0] 54)
  have hX := (Blk.new w [.int .i64 (37), .int .i64 ok, .int .i64 oa, .int .i64 ob, .int .i64 oc, .int .u64 a, .int .u64 b, .int .u64 c, .int .u64 n, .int .u64 t, .int .u64 p, .int .i64 back, .int .i64 ret] 54).alloc (.cells #[.int .i64 0, .int .i64 0, .int .i64 0, .int .i64 0, .int .i64 0, .int .u64 0, .int .u64 0, .int .u64 0, .int .u64 0, .int .u64 0, .int .u64 0, .int .i64 0, .int .i64 0] 54)
  have hR := Blk.new (w.alloc (.cells #[.int .i64 (37), .int .i64 ok, .int .i64 oa, .int .i64 ob, .int .i64 oc, .int .u64 a, .int .u64 b, .int .u64 c, .int .u64 n, .int .u64 t, .int .u64 p, .int .i64 back, .int .i64 ret] 54)) [.int .i64 0, .int .i64 0, .int .i64 0, .int .i64 0, .int .i64 0, .int .u64 0, .int .u64 0, .int .u64 0, .int .u64 0, .int .u64 0, .int .u64 0, .int .i64 0, .int .i64 0] 54
  simp only [World.size_alloc] at hR
  have hFF := ((Fr.refl [h, db] w).alloc (.cells #[.int .i64 (37), .int .i64 ok, .int .i64 oa, .int .i64 ob, .int .i64 oc, .int .u64 a, .int .u64 b, .int .u64 c, .int .u64 n, .int .u64 t, .int .u64 p, .int .i64 back, .int .i64 ret] 54)).alloc (.cells #[.int .i64 0, .int .i64 0, .int .i64 0, .int .i64 0, .int .i64 0, .int .u64 0, .int .u64 0, .int .u64 0, .int .u64 0, .int .u64 0, .int .u64 0, .int .i64 0, .int .i64 0] 54)
  have a1 : h ≠ w.heap.size := by omega
  have a2 : db ≠ w.heap.size := by omega
  have a3 : ab ≠ w.heap.size := by omega
  have b1 : h ≠ w.heap.size + 1 := by omega
  have b2 : db ≠ w.heap.size + 1 := by omega
  have b3 : ab ≠ w.heap.size + 1 := by omega
  have d1 : ¬ w.heap.size = h := by omega
  have d2 : ¬ w.heap.size = db := by omega
  have d3 : ¬ w.heap.size + 1 = h := by omega
  have d4 : ¬ w.heap.size + 1 = db := by omega
  go_enter Try.func35, Try.ntmps35
  go_wp2_with (first | (go_at_call 125; refine (hadd_any HH _ _ (by omega)).mono ?_; rintro e w2 ⟨rfl, HH, hF2⟩; (have hX := hX.kept hF2 hXn); (have hR := hR.kept hF2 hRn); (have hFF := hFF.trans hF2); (have kX := hX.cell); (have fX := hX.free); (have kR := hR.cell); (have fR := hR.free)))
  have hmm := @run_makeMap Try.prog
  have hM0 := MapAt.made w2
  obtain ⟨w3, hr3, hM3, hF3⟩ := run_put (P := Try.prog) Try.underlying169 Try.underlying3 hM0 37 (.int .i64 38)
  obtain ⟨w4, hr4, hM4, hF4⟩ := run_put (P := Try.prog) Try.underlying169 Try.underlying3 hM3 41 (.int .i64 90)
  have hl4 := run_look (P := Try.prog) Try.underlying169 Try.underlying3 hM4 37 (.int .i64 0) (by kernel_rfl)
  have hs2 := hFF.size
  have lX := hX.lt
  have lR := hR.lt
  have lH := HH.blk.lt
  have lD := HH.ar.dat.lt
  have lA := HH.ar.hdr.lt
  have HH := ((HH.alloc (.map #[] 0)).kept hF3 (by simp; omega) (by simp; omega) (by simp; omega)).kept hF4 (by simp; omega) (by simp; omega) (by simp; omega)
  have hX := ((hX.alloc (.map #[] 0)).kept hF3 (by simp; omega)).kept hF4 (by simp; omega)
  have hR := ((hR.alloc (.map #[] 0)).kept hF3 (by simp; omega)).kept hF4 (by simp; omega)
  have hFF := ((hFF.alloc (.map #[] 0)).trans_new hF3 (by simp; omega)).trans_new hF4 (by simp; omega)
  have kX := hX.cell
  have fX := hX.free
  have kR := hR.cell
  have fR := hR.free
  simp [mput, mget] at hl4
  go_simp
  go_wp2
  refine bodyPost_ret (v := .tuple #[.agg #[.int .i64 (38), .int .i64 ok, .int .i64 oa, .int .i64 ob, .int .i64 oc, .int .u64 a, .int .u64 b, .int .u64 c, .int .u64 n, .int .u64 t, .int .u64 p, .int .i64 back, .int .i64 ret], .bool true]) (by simp [results, Try.results35, go_sem, kX, kR]) rfl ⟨rfl, ?_, ?_⟩
  · repeat (first | with_reducible exact HH | with_reducible refine HAt.other ?_ a1 a3 a2 _ | with_reducible refine HAt.other ?_ b1 b3 b2 _)
  · repeat (first | with_reducible exact hFF | with_reducible refine Fr.setNew ?_ (Nat.le_refl _) _ | with_reducible refine Fr.setNew ?_ (Nat.le_succ _) _)

theorem tk41 {w : World} {h ab db : Nat} {s : HS} (H : HAt w h ab db s)  (ok oa ob oc a b c n t p back ret : Int)  :
    Calls Try.prog 35 #[.pointer (some ⟨h, 0, none⟩), .agg #[.int .i64 (41), .int .i64 ok, .int .i64 oa, .int .i64 ob, .int .i64 oc, .int .u64 a, .int .u64 b, .int .u64 c, .int .u64 n, .int .u64 t, .int .u64 p, .int .i64 back, .int .i64 ret]] w fun e w' => e = .returned (.tuple #[.agg #[.int .i64 (90), .int .i64 ok, .int .i64 oa, .int .i64 ob, .int .i64 oc, .int .u64 a, .int .u64 b, .int .u64 c, .int .u64 n, .int .u64 t, .int .u64 p, .int .i64 back, .int .i64 ret], .bool true]) ∧ (HAt w' h ab db (s.doIt (aAdd 4 1)) ∧ Fr [h, db] w w') := by
  have n0 := H.blk.lt
  have n1 := H.ar.dat.lt
  have n2 := H.ar.hdr.lt
  have hXn : w.heap.size ∉ [h, db] := by simp; omega
  have hRn : w.heap.size + 1 ∉ [h, db] := by simp; omega
  have HH := (H.alloc (.cells #[.int .i64 (41), .int .i64 ok, .int .i64 oa, .int .i64 ob, .int .i64 oc, .int .u64 a, .int .u64 b, .int .u64 c, .int .u64 n, .int .u64 t, .int .u64 p, .int .i64 back, .int .i64 ret] 54)).alloc (.cells #[.int .i64 0, .int .i64 0, .int .i64 0, .int .i64 0, .int .i64 0, .int .u64 0, .int .u64 0, .int .u64 0, .int .u64 0, .int .u64 0, .int .u64 0, .int .i64 0, .int .i64 0] 54)
  have hX := (Blk.new w [.int .i64 (41), .int .i64 ok, .int .i64 oa, .int .i64 ob, .int .i64 oc, .int .u64 a, .int .u64 b, .int .u64 c, .int .u64 n, .int .u64 t, .int .u64 p, .int .i64 back, .int .i64 ret] 54).alloc (.cells #[.int .i64 0, .int .i64 0, .int .i64 0, .int .i64 0, .int .i64 0, .int .u64 0, .int .u64 0, .int .u64 0, .int .u64 0, .int .u64 0, .int .u64 0, .int .i64 0, .int .i64 0] 54)
  have hR := Blk.new (w.alloc (.cells #[.int .i64 (41), .int .i64 ok, .int .i64 oa, .int .i64 ob, .int .i64 oc, .int .u64 a, .int .u64 b, .int .u64 c, .int .u64 n, .int .u64 t, .int .u64 p, .int .i64 back, .int .i64 ret] 54)) [.int .i64 0, .int .i64 0, .int .i64 0, .int .i64 0, .int .i64 0, .int .u64 0, .int .u64 0, .int .u64 0, .int .u64 0, .int .u64 0, .int .u64 0, .int .i64 0, .int .i64 0] 54
  simp only [World.size_alloc] at hR
  have hFF := ((Fr.refl [h, db] w).alloc (.cells #[.int .i64 (41), .int .i64 ok, .int .i64 oa, .int .i64 ob, .int .i64 oc, .int .u64 a, .int .u64 b, .int .u64 c, .int .u64 n, .int .u64 t, .int .u64 p, .int .i64 back, .int .i64 ret] 54)).alloc (.cells #[.int .i64 0, .int .i64 0, .int .i64 0, .int .i64 0, .int .i64 0, .int .u64 0, .int .u64 0, .int .u64 0, .int .u64 0, .int .u64 0, .int .u64 0, .int .i64 0, .int .i64 0] 54)
  have a1 : h ≠ w.heap.size := by omega
  have a2 : db ≠ w.heap.size := by omega
  have a3 : ab ≠ w.heap.size := by omega
  have b1 : h ≠ w.heap.size + 1 := by omega
  have b2 : db ≠ w.heap.size + 1 := by omega
  have b3 : ab ≠ w.heap.size + 1 := by omega
  have d1 : ¬ w.heap.size = h := by omega
  have d2 : ¬ w.heap.size = db := by omega
  have d3 : ¬ w.heap.size + 1 = h := by omega
  have d4 : ¬ w.heap.size + 1 = db := by omega
  go_enter Try.func35, Try.ntmps35
  go_wp2_with (first | (go_at_call 125; refine (hadd_any HH _ _ (by omega)).mono ?_; rintro e w2 ⟨rfl, HH, hF2⟩; (have hX := hX.kept hF2 hXn); (have hR := hR.kept hF2 hRn); (have hFF := hFF.trans hF2); (have kX := hX.cell); (have fX := hX.free); (have kR := hR.cell); (have fR := hR.free)))
  have hmm := @run_makeMap Try.prog
  have hM0 := MapAt.made w2
  obtain ⟨w3, hr3, hM3, hF3⟩ := run_put (P := Try.prog) Try.underlying169 Try.underlying3 hM0 37 (.int .i64 38)
  obtain ⟨w4, hr4, hM4, hF4⟩ := run_put (P := Try.prog) Try.underlying169 Try.underlying3 hM3 41 (.int .i64 90)
  have hl4 := run_look (P := Try.prog) Try.underlying169 Try.underlying3 hM4 41 (.int .i64 0) (by kernel_rfl)
  have hs2 := hFF.size
  have lX := hX.lt
  have lR := hR.lt
  have lH := HH.blk.lt
  have lD := HH.ar.dat.lt
  have lA := HH.ar.hdr.lt
  have HH := ((HH.alloc (.map #[] 0)).kept hF3 (by simp; omega) (by simp; omega) (by simp; omega)).kept hF4 (by simp; omega) (by simp; omega) (by simp; omega)
  have hX := ((hX.alloc (.map #[] 0)).kept hF3 (by simp; omega)).kept hF4 (by simp; omega)
  have hR := ((hR.alloc (.map #[] 0)).kept hF3 (by simp; omega)).kept hF4 (by simp; omega)
  have hFF := ((hFF.alloc (.map #[] 0)).trans_new hF3 (by simp; omega)).trans_new hF4 (by simp; omega)
  have kX := hX.cell
  have fX := hX.free
  have kR := hR.cell
  have fR := hR.free
  simp [mput, mget] at hl4
  go_simp
  go_wp2
  refine bodyPost_ret (v := .tuple #[.agg #[.int .i64 (90), .int .i64 ok, .int .i64 oa, .int .i64 ob, .int .i64 oc, .int .u64 a, .int .u64 b, .int .u64 c, .int .u64 n, .int .u64 t, .int .u64 p, .int .i64 back, .int .i64 ret], .bool true]) (by simp [results, Try.results35, go_sem, kX, kR]) rfl ⟨rfl, ?_, ?_⟩
  · repeat (first | with_reducible exact HH | with_reducible refine HAt.other ?_ a1 a3 a2 _ | with_reducible refine HAt.other ?_ b1 b3 b2 _)
  · repeat (first | with_reducible exact hFF | with_reducible refine Fr.setNew ?_ (Nat.le_refl _) _ | with_reducible refine Fr.setNew ?_ (Nat.le_succ _) _)

theorem tkno {w : World} {h ab db : Nat} {s : HS} (H : HAt w h ab db s)  (line ok oa ob oc a b c n t p back ret : Int) (k1 : ¬ line = 32) (k2 : ¬ line = 33) (k3 : ¬ line = 37) (k4 : ¬ line = 41) :
    Calls Try.prog 35 #[.pointer (some ⟨h, 0, none⟩), .agg #[.int .i64 line, .int .i64 ok, .int .i64 oa, .int .i64 ob, .int .i64 oc, .int .u64 a, .int .u64 b, .int .u64 c, .int .u64 n, .int .u64 t, .int .u64 p, .int .i64 back, .int .i64 ret]] w fun e w' => e = .returned (.tuple #[.agg #[.int .i64 line, .int .i64 ok, .int .i64 oa, .int .i64 ob, .int .i64 oc, .int .u64 a, .int .u64 b, .int .u64 c, .int .u64 n, .int .u64 t, .int .u64 p, .int .i64 back, .int .i64 ret], .bool false]) ∧ (HAt w' h ab db (s) ∧ Fr [h, db] w w') := by
  have n0 := H.blk.lt
  have n1 := H.ar.dat.lt
  have n2 := H.ar.hdr.lt
  have hXn : w.heap.size ∉ [h, db] := by simp; omega
  have hRn : w.heap.size + 1 ∉ [h, db] := by simp; omega
  have HH := (H.alloc (.cells #[.int .i64 line, .int .i64 ok, .int .i64 oa, .int .i64 ob, .int .i64 oc, .int .u64 a, .int .u64 b, .int .u64 c, .int .u64 n, .int .u64 t, .int .u64 p, .int .i64 back, .int .i64 ret] 54)).alloc (.cells #[.int .i64 0, .int .i64 0, .int .i64 0, .int .i64 0, .int .i64 0, .int .u64 0, .int .u64 0, .int .u64 0, .int .u64 0, .int .u64 0, .int .u64 0, .int .i64 0, .int .i64 0] 54)
  have hX := (Blk.new w [.int .i64 line, .int .i64 ok, .int .i64 oa, .int .i64 ob, .int .i64 oc, .int .u64 a, .int .u64 b, .int .u64 c, .int .u64 n, .int .u64 t, .int .u64 p, .int .i64 back, .int .i64 ret] 54).alloc (.cells #[.int .i64 0, .int .i64 0, .int .i64 0, .int .i64 0, .int .i64 0, .int .u64 0, .int .u64 0, .int .u64 0, .int .u64 0, .int .u64 0, .int .u64 0, .int .i64 0, .int .i64 0] 54)
  have hR := Blk.new (w.alloc (.cells #[.int .i64 line, .int .i64 ok, .int .i64 oa, .int .i64 ob, .int .i64 oc, .int .u64 a, .int .u64 b, .int .u64 c, .int .u64 n, .int .u64 t, .int .u64 p, .int .i64 back, .int .i64 ret] 54)) [.int .i64 0, .int .i64 0, .int .i64 0, .int .i64 0, .int .i64 0, .int .u64 0, .int .u64 0, .int .u64 0, .int .u64 0, .int .u64 0, .int .u64 0, .int .i64 0, .int .i64 0] 54
  simp only [World.size_alloc] at hR
  have hFF := ((Fr.refl [h, db] w).alloc (.cells #[.int .i64 line, .int .i64 ok, .int .i64 oa, .int .i64 ob, .int .i64 oc, .int .u64 a, .int .u64 b, .int .u64 c, .int .u64 n, .int .u64 t, .int .u64 p, .int .i64 back, .int .i64 ret] 54)).alloc (.cells #[.int .i64 0, .int .i64 0, .int .i64 0, .int .i64 0, .int .i64 0, .int .u64 0, .int .u64 0, .int .u64 0, .int .u64 0, .int .u64 0, .int .u64 0, .int .i64 0, .int .i64 0] 54)
  have a1 : h ≠ w.heap.size := by omega
  have a2 : db ≠ w.heap.size := by omega
  have a3 : ab ≠ w.heap.size := by omega
  have b1 : h ≠ w.heap.size + 1 := by omega
  have b2 : db ≠ w.heap.size + 1 := by omega
  have b3 : ab ≠ w.heap.size + 1 := by omega
  have d1 : ¬ w.heap.size = h := by omega
  have d2 : ¬ w.heap.size = db := by omega
  have d3 : ¬ w.heap.size + 1 = h := by omega
  have d4 : ¬ w.heap.size + 1 = db := by omega
  go_enter Try.func35, Try.ntmps35
  go_wp2
  refine bodyPost_ret (v := .tuple #[.agg #[.int .i64 line, .int .i64 ok, .int .i64 oa, .int .i64 ob, .int .i64 oc, .int .u64 a, .int .u64 b, .int .u64 c, .int .u64 n, .int .u64 t, .int .u64 p, .int .i64 back, .int .i64 ret], .bool false]) (by simp [results, Try.results35, go_sem]) rfl ⟨rfl, ?_, ?_⟩
  · exact (H.alloc _).alloc _
  · exact ((Fr.refl _ _).alloc _).alloc _

theorem tknil (w : World)  (line ok oa ob oc a b c n t p back ret : Int)  :
    Calls Try.prog 35 #[.pointer none, .agg #[.int .i64 line, .int .i64 ok, .int .i64 oa, .int .i64 ob, .int .i64 oc, .int .u64 a, .int .u64 b, .int .u64 c, .int .u64 n, .int .u64 t, .int .u64 p, .int .i64 back, .int .i64 ret]] w fun e w' => e = .returned (.tuple #[.agg #[.int .i64 line, .int .i64 ok, .int .i64 oa, .int .i64 ob, .int .i64 oc, .int .u64 a, .int .u64 b, .int .u64 c, .int .u64 n, .int .u64 t, .int .u64 p, .int .i64 back, .int .i64 ret], .bool false]) ∧ Fr [] w w' := by
  go_enter Try.func35, Try.ntmps35
  go_wp2
  refine bodyPost_ret (v := .tuple #[.agg #[.int .i64 line, .int .i64 ok, .int .i64 oa, .int .i64 ob, .int .i64 oc, .int .u64 a, .int .u64 b, .int .u64 c, .int .u64 n, .int .u64 t, .int .u64 p, .int .i64 back, .int .i64 ret], .bool false]) (by simp [results, Try.results35, go_sem]) rfl ⟨rfl, ((Fr.refl _ _).alloc _).alloc _⟩

end Go.Proofs.Ytolkgdchinaonaa
