/- pop.Step line by line. -/
import Derived.Test.YtolkgdchinaonaaPlain
import Derived.Test.YtolkgdchinaonaaBarrier
namespace Go.Proofs.Ytolkgdchinaonaa
open Go.RowKit
set_option linter.unusedVariables false
set_option linter.unusedSimpArgs false


theorem beg_y (line ok oa ob oc a b c n t p back ret : Int) (u bk : Int) (h0 : 0 ≤ u) (h1 : u < 18446744073709551616) (hc : isCell u = true) (w : World) : Calls Try.prog 203 #[.agg #[.int .i64 line, .int .i64 ok, .int .i64 oa, .int .i64 ob, .int .i64 oc, .int .u64 a, .int .u64 b, .int .u64 c, .int .u64 n, .int .u64 t, .int .u64 p, .int .i64 back, .int .i64 ret], .int .u64 u, .int .i64 bk] w fun e w' => e = .returned (.agg #[.int .i64 (80), .int .i64 ok, .int .i64 oa, .int .i64 ob, .int .i64 oc, .int .u64 a, .int .u64 b, .int .u64 c, .int .u64 n, .int .u64 t, .int .u64 u, .int .i64 bk, .int .i64 ret]) ∧ Fr [] w w' := by
  have h := begin_any ⟨line, ok, oa, ob, oc, a, b, c, n, t, p, back, ret⟩ u bk h0 h1 w
  unfold brBegin at h
  rw [if_pos hc] at h
  exact h
theorem beg_n (line ok oa ob oc a b c n t p back ret : Int) (u bk : Int) (h0 : 0 ≤ u) (h1 : u < 18446744073709551616) (hc : isCell u = false) (w : World) : Calls Try.prog 203 #[.agg #[.int .i64 line, .int .i64 ok, .int .i64 oa, .int .i64 ob, .int .i64 oc, .int .u64 a, .int .u64 b, .int .u64 c, .int .u64 n, .int .u64 t, .int .u64 p, .int .i64 back, .int .i64 ret], .int .u64 u, .int .i64 bk] w fun e w' => e = .returned (.agg #[.int .i64 bk, .int .i64 ok, .int .i64 oa, .int .i64 ob, .int .i64 oc, .int .u64 a, .int .u64 b, .int .u64 c, .int .u64 n, .int .u64 t, .int .u64 (0), .int .i64 (0), .int .i64 ret]) ∧ Fr [] w w' := by
  have h := begin_any ⟨line, ok, oa, ob, oc, a, b, c, n, t, p, back, ret⟩ u bk h0 h1 w
  unfold brBegin at h
  rw [if_neg (by simp [hc])] at h
  exact h

theorem pop34 {w : World} {h ab db : Nat} {s : HS} (H : HAt w h ab db s)  (ok oa ob oc a b c n t p back ret : Int)  :
    Calls Try.prog 186 #[.pointer (some ⟨h, 0, none⟩), .agg #[.int .i64 (34), .int .i64 ok, .int .i64 oa, .int .i64 ob, .int .i64 oc, .int .u64 a, .int .u64 b, .int .u64 c, .int .u64 n, .int .u64 t, .int .u64 p, .int .i64 back, .int .i64 ret]] w fun e w' => e = .returned (.tuple #[.agg #[.int .i64 (35), .int .i64 ok, .int .i64 oa, .int .i64 ob, .int .i64 oc, .int .u64 a, .int .u64 b, .int .u64 ((wAt s.ws 0)), .int .u64 n, .int .u64 t, .int .u64 p, .int .i64 back, .int .i64 ret], .bool false, .bool true]) ∧ (HAt w' h ab db (s.doIt (aLoad 0)) ∧ Fr [h, db] w w') := by
  have n0 := H.blk.lt
  have n1 := H.ar.dat.lt
  have n2 := H.ar.hdr.lt
  have hXn : w.heap.size ∉ [h, db] := by simp; omega
  have hRn : w.heap.size + 1 ∉ [h, db] := by simp; omega
  have HH := (H.alloc (.cells #[.int .i64 (34), .int .i64 ok, .int .i64 oa, .int .i64 ob, .int .i64 oc, .int .u64 a, .int .u64 b, .int .u64 c, .int .u64 n, .int .u64 t, .int .u64 p, .int .i64 back, .int .i64 ret] 54)).alloc (.cells #[.int .i64 0, .int .i64 0, .int .i64 0, .int .i64 0, .int .i64 0, .int .u64 0, .int .u64 0, .int .u64 0, .int .u64 0, .int .u64 0, .int .u64 0, .int .i64 0, .int .i64 0] 54)
  have hX := (Blk.new w [.int .i64 (34), .int .i64 ok, .int .i64 oa, .int .i64 ob, .int .i64 oc, .int .u64 a, .int .u64 b, .int .u64 c, .int .u64 n, .int .u64 t, .int .u64 p, .int .i64 back, .int .i64 ret] 54).alloc (.cells #[.int .i64 0, .int .i64 0, .int .i64 0, .int .i64 0, .int .i64 0, .int .u64 0, .int .u64 0, .int .u64 0, .int .u64 0, .int .u64 0, .int .u64 0, .int .i64 0, .int .i64 0] 54)
  have hR := Blk.new (w.alloc (.cells #[.int .i64 (34), .int .i64 ok, .int .i64 oa, .int .i64 ob, .int .i64 oc, .int .u64 a, .int .u64 b, .int .u64 c, .int .u64 n, .int .u64 t, .int .u64 p, .int .i64 back, .int .i64 ret] 54)) [.int .i64 0, .int .i64 0, .int .i64 0, .int .i64 0, .int .i64 0, .int .u64 0, .int .u64 0, .int .u64 0, .int .u64 0, .int .u64 0, .int .u64 0, .int .i64 0, .int .i64 0] 54
  simp only [World.size_alloc] at hR
  have hFF := ((Fr.refl [h, db] w).alloc (.cells #[.int .i64 (34), .int .i64 ok, .int .i64 oa, .int .i64 ob, .int .i64 oc, .int .u64 a, .int .u64 b, .int .u64 c, .int .u64 n, .int .u64 t, .int .u64 p, .int .i64 back, .int .i64 ret] 54)).alloc (.cells #[.int .i64 0, .int .i64 0, .int .i64 0, .int .i64 0, .int .i64 0, .int .u64 0, .int .u64 0, .int .u64 0, .int .u64 0, .int .u64 0, .int .u64 0, .int .i64 0, .int .i64 0] 54)
  have a1 : h ≠ w.heap.size := by omega
  have a2 : db ≠ w.heap.size := by omega
  have a3 : ab ≠ w.heap.size := by omega
  have b1 : h ≠ w.heap.size + 1 := by omega
  have b2 : db ≠ w.heap.size + 1 := by omega
  have b3 : ab ≠ w.heap.size + 1 := by omega
  have d1 : ¬ w.heap.size = h := by omega
  have d2 : ¬ w.heap.size = db := by omega
  have d3 : ¬ w.heap.size + 1 = h := by omega
  have d4 : ¬ w.heap.size + 1 = db := by omega
  go_enter Try.func186, Try.ntmps186
  go_wp2_with (first | (go_at_call 126; refine (hload_any HH _).mono ?_; rintro e w2 ⟨rfl, HH, hF2⟩; (have hX := hX.kept hF2 hXn); (have hR := hR.kept hF2 hRn); (have hFF := hFF.trans hF2); (have kX := hX.cell); (have fX := hX.free); (have kR := hR.cell); (have fR := hR.free)))
  refine bodyPost_ret (v := .tuple #[.agg #[.int .i64 (35), .int .i64 ok, .int .i64 oa, .int .i64 ob, .int .i64 oc, .int .u64 a, .int .u64 b, .int .u64 ((wAt s.ws 0)), .int .u64 n, .int .u64 t, .int .u64 p, .int .i64 back, .int .i64 ret], .bool false, .bool true]) (by simp [results, Try.results186, go_sem, kX, kR]) rfl ⟨rfl, ?_, ?_⟩
  · repeat (first | with_reducible exact HH | with_reducible refine HAt.other ?_ a1 a3 a2 _ | with_reducible refine HAt.other ?_ b1 b3 b2 _)
  · repeat (first | with_reducible exact hFF | with_reducible refine Fr.setNew ?_ (Nat.le_refl _) _ | with_reducible refine Fr.setNew ?_ (Nat.le_succ _) _)

theorem pop35y {w : World} {h ab db : Nat} {s : HS} (H : HAt w h ab db s)  (ok oa ob oc a b c n t p back ret : Int) (hc0 : 0 ≤ c) (hc1 : c < 18446744073709551616) (hn : isCell (wAt s.ws (s.c.fieldP c 1)) = true) :
    Calls Try.prog 186 #[.pointer (some ⟨h, 0, none⟩), .agg #[.int .i64 (35), .int .i64 ok, .int .i64 oa, .int .i64 ob, .int .i64 oc, .int .u64 a, .int .u64 b, .int .u64 c, .int .u64 n, .int .u64 t, .int .u64 p, .int .i64 back, .int .i64 ret]] w fun e w' => e = .returned (.tuple #[.agg #[.int .i64 (36), .int .i64 ok, .int .i64 oa, .int .i64 ob, .int .i64 oc, .int .u64 a, .int .u64 b, .int .u64 c, .int .u64 ((wAt s.ws (s.c.fieldP c 1))), .int .u64 t, .int .u64 p, .int .i64 back, .int .i64 ret], .bool false, .bool true]) ∧ (HAt w' h ab db (s.doIt (aLoad (s.c.fieldP c 1))) ∧ Fr [h, db] w w') := by
  have n0 := H.blk.lt
  have n1 := H.ar.dat.lt
  have n2 := H.ar.hdr.lt
  have hXn : w.heap.size ∉ [h, db] := by simp; omega
  have hRn : w.heap.size + 1 ∉ [h, db] := by simp; omega
  have HH := (H.alloc (.cells #[.int .i64 (35), .int .i64 ok, .int .i64 oa, .int .i64 ob, .int .i64 oc, .int .u64 a, .int .u64 b, .int .u64 c, .int .u64 n, .int .u64 t, .int .u64 p, .int .i64 back, .int .i64 ret] 54)).alloc (.cells #[.int .i64 0, .int .i64 0, .int .i64 0, .int .i64 0, .int .i64 0, .int .u64 0, .int .u64 0, .int .u64 0, .int .u64 0, .int .u64 0, .int .u64 0, .int .i64 0, .int .i64 0] 54)
  have hX := (Blk.new w [.int .i64 (35), .int .i64 ok, .int .i64 oa, .int .i64 ob, .int .i64 oc, .int .u64 a, .int .u64 b, .int .u64 c, .int .u64 n, .int .u64 t, .int .u64 p, .int .i64 back, .int .i64 ret] 54).alloc (.cells #[.int .i64 0, .int .i64 0, .int .i64 0, .int .i64 0, .int .i64 0, .int .u64 0, .int .u64 0, .int .u64 0, .int .u64 0, .int .u64 0, .int .u64 0, .int .i64 0, .int .i64 0] 54)
  have hR := Blk.new (w.alloc (.cells #[.int .i64 (35), .int .i64 ok, .int .i64 oa, .int .i64 ob, .int .i64 oc, .int .u64 a, .int .u64 b, .int .u64 c, .int .u64 n, .int .u64 t, .int .u64 p, .int .i64 back, .int .i64 ret] 54)) [.int .i64 0, .int .i64 0, .int .i64 0, .int .i64 0, .int .i64 0, .int .u64 0, .int .u64 0, .int .u64 0, .int .u64 0, .int .u64 0, .int .u64 0, .int .i64 0, .int .i64 0] 54
  simp only [World.size_alloc] at hR
  have hFF := ((Fr.refl [h, db] w).alloc (.cells #[.int .i64 (35), .int .i64 ok, .int .i64 oa, .int .i64 ob, .int .i64 oc, .int .u64 a, .int .u64 b, .int .u64 c, .int .u64 n, .int .u64 t, .int .u64 p, .int .i64 back, .int .i64 ret] 54)).alloc (.cells #[.int .i64 0, .int .i64 0, .int .i64 0, .int .i64 0, .int .i64 0, .int .u64 0, .int .u64 0, .int .u64 0, .int .u64 0, .int .u64 0, .int .u64 0, .int .i64 0, .int .i64 0] 54)
  have a1 : h ≠ w.heap.size := by omega
  have a2 : db ≠ w.heap.size := by omega
  have a3 : ab ≠ w.heap.size := by omega
  have b1 : h ≠ w.heap.size + 1 := by omega
  have b2 : db ≠ w.heap.size + 1 := by omega
  have b3 : ab ≠ w.heap.size + 1 := by omega
  have d1 : ¬ w.heap.size = h := by omega
  have d2 : ¬ w.heap.size = db := by omega
  have d3 : ¬ w.heap.size + 1 = h := by omega
  have d4 : ¬ w.heap.size + 1 = db := by omega
  have hb := H.ar.bd (s.c.fieldP c 1)
  have hb0 := hb.1
  have hb1 := hb.2
  clear hb
  go_enter Try.func186, Try.ntmps186
  go_wp2_with (first | (go_at_call 147; refine (field_any HH _ _ (by omega) (by omega)).mono ?_; rintro e w2 ⟨rfl, hF2⟩; (have HH := HH.kept0 hF2); (have hX := hX.kept hF2 (by simp)); (have hR := hR.kept hF2 (by simp)); (have hFF := hFF.trans (hF2.mono (by simp))); (have kX := hX.cell); (have fX := hX.free); (have kR := hR.cell); (have fR := hR.free)) | (go_at_call 126; refine (hload_any HH _).mono ?_; rintro e w2 ⟨rfl, HH, hF2⟩; (have hX := hX.kept hF2 hXn); (have hR := hR.kept hF2 hRn); (have hFF := hFF.trans hF2); (have kX := hX.cell); (have fX := hX.free); (have kR := hR.cell); (have fR := hR.free)) | (go_at_call 144; refine (isCell_any _ (by omega) (by omega) _).mono ?_; rintro e w2 ⟨rfl, rfl⟩))
  refine bodyPost_ret (v := .tuple #[.agg #[.int .i64 (36), .int .i64 ok, .int .i64 oa, .int .i64 ob, .int .i64 oc, .int .u64 a, .int .u64 b, .int .u64 c, .int .u64 ((wAt s.ws (s.c.fieldP c 1))), .int .u64 t, .int .u64 p, .int .i64 back, .int .i64 ret], .bool false, .bool true]) (by simp [results, Try.results186, go_sem, kX, kR]) rfl ⟨rfl, ?_, ?_⟩
  · repeat (first | with_reducible exact HH | with_reducible refine HAt.other ?_ a1 a3 a2 _ | with_reducible refine HAt.other ?_ b1 b3 b2 _)
  · repeat (first | with_reducible exact hFF | with_reducible refine Fr.setNew ?_ (Nat.le_refl _) _ | with_reducible refine Fr.setNew ?_ (Nat.le_succ _) _)

theorem pop35n {w : World} {h ab db : Nat} {s : HS} (H : HAt w h ab db s)  (ok oa ob oc a b c n t p back ret : Int) (hc0 : 0 ≤ c) (hc1 : c < 18446744073709551616) (hn : isCell (wAt s.ws (s.c.fieldP c 1)) = false) :
    Calls Try.prog 186 #[.pointer (some ⟨h, 0, none⟩), .agg #[.int .i64 (35), .int .i64 ok, .int .i64 oa, .int .i64 ob, .int .i64 oc, .int .u64 a, .int .u64 b, .int .u64 c, .int .u64 n, .int .u64 t, .int .u64 p, .int .i64 back, .int .i64 ret]] w fun e w' => e = .returned (.tuple #[.agg #[.int .i64 (41), .int .i64 ok, .int .i64 oa, .int .i64 ob, .int .i64 oc, .int .u64 a, .int .u64 b, .int .u64 c, .int .u64 ((wAt s.ws (s.c.fieldP c 1))), .int .u64 t, .int .u64 p, .int .i64 back, .int .i64 (5)], .bool true, .bool true]) ∧ (HAt w' h ab db (s.doIt (aLoad (s.c.fieldP c 1))) ∧ Fr [h, db] w w') := by
  have n0 := H.blk.lt
  have n1 := H.ar.dat.lt
  have n2 := H.ar.hdr.lt
  have hXn : w.heap.size ∉ [h, db] := by simp; omega
  have hRn : w.heap.size + 1 ∉ [h, db] := by simp; omega
  have HH := (H.alloc (.cells #[.int .i64 (35), .int .i64 ok, .int .i64 oa, .int .i64 ob, .int .i64 oc, .int .u64 a, .int .u64 b, .int .u64 c, .int .u64 n, .int .u64 t, .int .u64 p, .int .i64 back, .int .i64 ret] 54)).alloc (.cells #[.int .i64 0, .int .i64 0, .int .i64 0, .int .i64 0, .int .i64 0, .int .u64 0, .int .u64 0, .int .u64 0, .int .u64 0, .int .u64 0, .int .u64 0, .int .i64 0, .int .i64 0] 54)
  have hX := (Blk.new w [.int .i64 (35), .int .i64 ok, .int .i64 oa, .int .i64 ob, .int .i64 oc, .int .u64 a, .int .u64 b, .int .u64 c, .int .u64 n, .int .u64 t, .int .u64 p, .int .i64 back, .int .i64 ret] 54).alloc (.cells #[.int .i64 0, .int .i64 0, .int .i64 0, .int .i64 0, .int .i64 0, .int .u64 0, .int .u64 0, .int .u64 0, .int .u64 0, .int .u64 0, .int .u64 0, .int .i64 0, .int .i64 0] 54)
  have hR := Blk.new (w.alloc (.cells #[.int .i64 (35), .int .i64 ok, .int .i64 oa, .int .i64 ob, .int .i64 oc, .int .u64 a, .int .u64 b, .int .u64 c, .int .u64 n, .int .u64 t, .int .u64 p, .int .i64 back, .int .i64 ret] 54)) [.int .i64 0, .int .i64 0, .int .i64 0, .int .i64 0, .int .i64 0, .int .u64 0, .int .u64 0, .int .u64 0, .int .u64 0, .int .u64 0, .int .u64 0, .int .i64 0, .int .i64 0] 54
  simp only [World.size_alloc] at hR
  have hFF := ((Fr.refl [h, db] w).alloc (.cells #[.int .i64 (35), .int .i64 ok, .int .i64 oa, .int .i64 ob, .int .i64 oc, .int .u64 a, .int .u64 b, .int .u64 c, .int .u64 n, .int .u64 t, .int .u64 p, .int .i64 back, .int .i64 ret] 54)).alloc (.cells #[.int .i64 0, .int .i64 0, .int .i64 0, .int .i64 0, .int .i64 0, .int .u64 0, .int .u64 0, .int .u64 0, .int .u64 0, .int .u64 0, .int .u64 0, .int .i64 0, .int .i64 0] 54)
  have a1 : h ≠ w.heap.size := by omega
  have a2 : db ≠ w.heap.size := by omega
  have a3 : ab ≠ w.heap.size := by omega
  have b1 : h ≠ w.heap.size + 1 := by omega
  have b2 : db ≠ w.heap.size + 1 := by omega
  have b3 : ab ≠ w.heap.size + 1 := by omega
  have d1 : ¬ w.heap.size = h := by omega
  have d2 : ¬ w.heap.size = db := by omega
  have d3 : ¬ w.heap.size + 1 = h := by omega
  have d4 : ¬ w.heap.size + 1 = db := by omega
  have hb := H.ar.bd (s.c.fieldP c 1)
  have hb0 := hb.1
  have hb1 := hb.2
  clear hb
  go_enter Try.func186, Try.ntmps186
  go_wp2_with (first | (go_at_call 147; refine (field_any HH _ _ (by omega) (by omega)).mono ?_; rintro e w2 ⟨rfl, hF2⟩; (have HH := HH.kept0 hF2); (have hX := hX.kept hF2 (by simp)); (have hR := hR.kept hF2 (by simp)); (have hFF := hFF.trans (hF2.mono (by simp))); (have kX := hX.cell); (have fX := hX.free); (have kR := hR.cell); (have fR := hR.free)) | (go_at_call 126; refine (hload_any HH _).mono ?_; rintro e w2 ⟨rfl, HH, hF2⟩; (have hX := hX.kept hF2 hXn); (have hR := hR.kept hF2 hRn); (have hFF := hFF.trans hF2); (have kX := hX.cell); (have fX := hX.free); (have kR := hR.cell); (have fR := hR.free)) | (go_at_call 144; refine (isCell_any _ (by omega) (by omega) _).mono ?_; rintro e w2 ⟨rfl, rfl⟩))
  refine bodyPost_ret (v := .tuple #[.agg #[.int .i64 (41), .int .i64 ok, .int .i64 oa, .int .i64 ob, .int .i64 oc, .int .u64 a, .int .u64 b, .int .u64 c, .int .u64 ((wAt s.ws (s.c.fieldP c 1))), .int .u64 t, .int .u64 p, .int .i64 back, .int .i64 (5)], .bool true, .bool true]) (by simp [results, Try.results186, go_sem, kX, kR]) rfl ⟨rfl, ?_, ?_⟩
  · repeat (first | with_reducible exact HH | with_reducible refine HAt.other ?_ a1 a3 a2 _ | with_reducible refine HAt.other ?_ b1 b3 b2 _)
  · repeat (first | with_reducible exact hFF | with_reducible refine Fr.setNew ?_ (Nat.le_refl _) _ | with_reducible refine Fr.setNew ?_ (Nat.le_succ _) _)

theorem pop36y {w : World} {h ab db : Nat} {s : HS} (H : HAt w h ab db s)  (ok oa ob oc a b c n t p back ret : Int) (hn0 : 0 ≤ n) (hn1 : n < 18446744073709551616) (hn : isCell n = true) :
    Calls Try.prog 186 #[.pointer (some ⟨h, 0, none⟩), .agg #[.int .i64 (36), .int .i64 ok, .int .i64 oa, .int .i64 ob, .int .i64 oc, .int .u64 a, .int .u64 b, .int .u64 c, .int .u64 n, .int .u64 t, .int .u64 p, .int .i64 back, .int .i64 ret]] w fun e w' => e = .returned (.tuple #[.agg #[.int .i64 (80), .int .i64 ok, .int .i64 oa, .int .i64 ob, .int .i64 oc, .int .u64 a, .int .u64 b, .int .u64 c, .int .u64 n, .int .u64 t, .int .u64 n, .int .i64 (37), .int .i64 ret], .bool true, .bool true]) ∧ (HAt w' h ab db (s.doIt (aStore 0 n)) ∧ Fr [h, db] w w') := by
  have n0 := H.blk.lt
  have n1 := H.ar.dat.lt
  have n2 := H.ar.hdr.lt
  have hXn : w.heap.size ∉ [h, db] := by simp; omega
  have hRn : w.heap.size + 1 ∉ [h, db] := by simp; omega
  have HH := (H.alloc (.cells #[.int .i64 (36), .int .i64 ok, .int .i64 oa, .int .i64 ob, .int .i64 oc, .int .u64 a, .int .u64 b, .int .u64 c, .int .u64 n, .int .u64 t, .int .u64 p, .int .i64 back, .int .i64 ret] 54)).alloc (.cells #[.int .i64 0, .int .i64 0, .int .i64 0, .int .i64 0, .int .i64 0, .int .u64 0, .int .u64 0, .int .u64 0, .int .u64 0, .int .u64 0, .int .u64 0, .int .i64 0, .int .i64 0] 54)
  have hX := (Blk.new w [.int .i64 (36), .int .i64 ok, .int .i64 oa, .int .i64 ob, .int .i64 oc, .int .u64 a, .int .u64 b, .int .u64 c, .int .u64 n, .int .u64 t, .int .u64 p, .int .i64 back, .int .i64 ret] 54).alloc (.cells #[.int .i64 0, .int .i64 0, .int .i64 0, .int .i64 0, .int .i64 0, .int .u64 0, .int .u64 0, .int .u64 0, .int .u64 0, .int .u64 0, .int .u64 0, .int .i64 0, .int .i64 0] 54)
  have hR := Blk.new (w.alloc (.cells #[.int .i64 (36), .int .i64 ok, .int .i64 oa, .int .i64 ob, .int .i64 oc, .int .u64 a, .int .u64 b, .int .u64 c, .int .u64 n, .int .u64 t, .int .u64 p, .int .i64 back, .int .i64 ret] 54)) [.int .i64 0, .int .i64 0, .int .i64 0, .int .i64 0, .int .i64 0, .int .u64 0, .int .u64 0, .int .u64 0, .int .u64 0, .int .u64 0, .int .u64 0, .int .i64 0, .int .i64 0] 54
  simp only [World.size_alloc] at hR
  have hFF := ((Fr.refl [h, db] w).alloc (.cells #[.int .i64 (36), .int .i64 ok, .int .i64 oa, .int .i64 ob, .int .i64 oc, .int .u64 a, .int .u64 b, .int .u64 c, .int .u64 n, .int .u64 t, .int .u64 p, .int .i64 back, .int .i64 ret] 54)).alloc (.cells #[.int .i64 0, .int .i64 0, .int .i64 0, .int .i64 0, .int .i64 0, .int .u64 0, .int .u64 0, .int .u64 0, .int .u64 0, .int .u64 0, .int .u64 0, .int .i64 0, .int .i64 0] 54)
  have a1 : h ≠ w.heap.size := by omega
  have a2 : db ≠ w.heap.size := by omega
  have a3 : ab ≠ w.heap.size := by omega
  have b1 : h ≠ w.heap.size + 1 := by omega
  have b2 : db ≠ w.heap.size + 1 := by omega
  have b3 : ab ≠ w.heap.size + 1 := by omega
  have d1 : ¬ w.heap.size = h := by omega
  have d2 : ¬ w.heap.size = db := by omega
  have d3 : ¬ w.heap.size + 1 = h := by omega
  have d4 : ¬ w.heap.size + 1 = db := by omega
  go_enter Try.func186, Try.ntmps186
  go_wp2_with (first | (go_at_call 39; refine (hstore_any HH _ _ (by omega)).mono ?_; rintro e w2 ⟨rfl, HH, hF2⟩; (have hX := hX.kept hF2 hXn); (have hR := hR.kept hF2 hRn); (have hFF := hFF.trans hF2); (have kX := hX.cell); (have fX := hX.free); (have kR := hR.cell); (have fR := hR.free)) | (go_at_call 203; refine (beg_y _ _ _ _ _ _ _ _ _ _ _ _ _ _ _ hn0 hn1 hn _).mono ?_; rintro e w2 ⟨rfl, hF2⟩; (have HH := HH.kept0 hF2); (have hX := hX.kept hF2 (by simp)); (have hR := hR.kept hF2 (by simp)); (have hFF := hFF.trans (hF2.mono (by simp))); (have kX := hX.cell); (have fX := hX.free); (have kR := hR.cell); (have fR := hR.free)))
  refine bodyPost_ret (v := .tuple #[.agg #[.int .i64 (80), .int .i64 ok, .int .i64 oa, .int .i64 ob, .int .i64 oc, .int .u64 a, .int .u64 b, .int .u64 c, .int .u64 n, .int .u64 t, .int .u64 n, .int .i64 (37), .int .i64 ret], .bool true, .bool true]) (by simp [results, Try.results186, go_sem, kX, kR]) rfl ⟨rfl, ?_, ?_⟩
  · repeat (first | with_reducible exact HH | with_reducible refine HAt.other ?_ a1 a3 a2 _ | with_reducible refine HAt.other ?_ b1 b3 b2 _)
  · repeat (first | with_reducible exact hFF | with_reducible refine Fr.setNew ?_ (Nat.le_refl _) _ | with_reducible refine Fr.setNew ?_ (Nat.le_succ _) _)

theorem pop36n {w : World} {h ab db : Nat} {s : HS} (H : HAt w h ab db s)  (ok oa ob oc a b c n t p back ret : Int) (hn0 : 0 ≤ n) (hn1 : n < 18446744073709551616) (hn : isCell n = false) :
    Calls Try.prog 186 #[.pointer (some ⟨h, 0, none⟩), .agg #[.int .i64 (36), .int .i64 ok, .int .i64 oa, .int .i64 ob, .int .i64 oc, .int .u64 a, .int .u64 b, .int .u64 c, .int .u64 n, .int .u64 t, .int .u64 p, .int .i64 back, .int .i64 ret]] w fun e w' => e = .returned (.tuple #[.agg #[.int .i64 (37), .int .i64 ok, .int .i64 oa, .int .i64 ob, .int .i64 oc, .int .u64 a, .int .u64 b, .int .u64 c, .int .u64 n, .int .u64 t, .int .u64 (0), .int .i64 (0), .int .i64 ret], .bool true, .bool true]) ∧ (HAt w' h ab db (s.doIt (aStore 0 n)) ∧ Fr [h, db] w w') := by
  have n0 := H.blk.lt
  have n1 := H.ar.dat.lt
  have n2 := H.ar.hdr.lt
  have hXn : w.heap.size ∉ [h, db] := by simp; omega
  have hRn : w.heap.size + 1 ∉ [h, db] := by simp; omega
  have HH := (H.alloc (.cells #[.int .i64 (36), .int .i64 ok, .int .i64 oa, .int .i64 ob, .int .i64 oc, .int .u64 a, .int .u64 b, .int .u64 c, .int .u64 n, .int .u64 t, .int .u64 p, .int .i64 back, .int .i64 ret] 54)).alloc (.cells #[.int .i64 0, .int .i64 0, .int .i64 0, .int .i64 0, .int .i64 0, .int .u64 0, .int .u64 0, .int .u64 0, .int .u64 0, .int .u64 0, .int .u64 0, .int .i64 0, .int .i64 0] 54)
  have hX := (Blk.new w [.int .i64 (36), .int .i64 ok, .int .i64 oa, .int .i64 ob, .int .i64 oc, .int .u64 a, .int .u64 b, .int .u64 c, .int .u64 n, .int .u64 t, .int .u64 p, .int .i64 back, .int .i64 ret] 54).alloc (.cells #[.int .i64 0, .int .i64 0, .int .i64 0, .int .i64 0, .int .i64 0, .int .u64 0, .int .u64 0, .int .u64 0, .int .u64 0, .int .u64 0, .int .u64 0, .int .i64 0, .int .i64 0] 54)
  have hR := Blk.new (w.alloc (.cells #[.int .i64 (36), .int .i64 ok, .int .i64 oa, .int .i64 ob, .int .i64 oc, .int .u64 a, .int .u64 b, .int .u64 c, .int .u64 n, .int .u64 t, .int .u64 p, .int .i64 back, .int .i64 ret] 54)) [.int .i64 0, .int .i64 0, .int .i64 0, .int .i64 0, .int .i64 0, .int .u64 0, .int .u64 0, .int .u64 0, .int .u64 0, .int .u64 0, .int .u64 0, .int .i64 0, .int .i64 0] 54
  simp only [World.size_alloc] at hR
  have hFF := ((Fr.refl [h, db] w).alloc (.cells #[.int .i64 (36), .int .i64 ok, .int .i64 oa, .int .i64 ob, .int .i64 oc, .int .u64 a, .int .u64 b, .int .u64 c, .int .u64 n, .int .u64 t, .int .u64 p, .int .i64 back, .int .i64 ret] 54)).alloc (.cells #[.int .i64 0, .int .i64 0, .int .i64 0, .int .i64 0, .int .i64 0, .int .u64 0, .int .u64 0, .int .u64 0, .int .u64 0, .int .u64 0, .int .u64 0, .int .i64 0, .int .i64 0] 54)
  have a1 : h ≠ w.heap.size := by omega
  have a2 : db ≠ w.heap.size := by omega
  have a3 : ab ≠ w.heap.size := by omega
  have b1 : h ≠ w.heap.size + 1 := by omega
  have b2 : db ≠ w.heap.size + 1 := by omega
  have b3 : ab ≠ w.heap.size + 1 := by omega
  have d1 : ¬ w.heap.size = h := by omega
  have d2 : ¬ w.heap.size = db := by omega
  have d3 : ¬ w.heap.size + 1 = h := by omega
  have d4 : ¬ w.heap.size + 1 = db := by omega
  go_enter Try.func186, Try.ntmps186
  go_wp2_with (first | (go_at_call 39; refine (hstore_any HH _ _ (by omega)).mono ?_; rintro e w2 ⟨rfl, HH, hF2⟩; (have hX := hX.kept hF2 hXn); (have hR := hR.kept hF2 hRn); (have hFF := hFF.trans hF2); (have kX := hX.cell); (have fX := hX.free); (have kR := hR.cell); (have fR := hR.free)) | (go_at_call 203; refine (beg_n _ _ _ _ _ _ _ _ _ _ _ _ _ _ _ hn0 hn1 hn _).mono ?_; rintro e w2 ⟨rfl, hF2⟩; (have HH := HH.kept0 hF2); (have hX := hX.kept hF2 (by simp)); (have hR := hR.kept hF2 (by simp)); (have hFF := hFF.trans (hF2.mono (by simp))); (have kX := hX.cell); (have fX := hX.free); (have kR := hR.cell); (have fR := hR.free)))
  refine bodyPost_ret (v := .tuple #[.agg #[.int .i64 (37), .int .i64 ok, .int .i64 oa, .int .i64 ob, .int .i64 oc, .int .u64 a, .int .u64 b, .int .u64 c, .int .u64 n, .int .u64 t, .int .u64 (0), .int .i64 (0), .int .i64 ret], .bool true, .bool true]) (by simp [results, Try.results186, go_sem, kX, kR]) rfl ⟨rfl, ?_, ?_⟩
  · repeat (first | with_reducible exact HH | with_reducible refine HAt.other ?_ a1 a3 a2 _ | with_reducible refine HAt.other ?_ b1 b3 b2 _)
  · repeat (first | with_reducible exact hFF | with_reducible refine Fr.setNew ?_ (Nat.le_refl _) _ | with_reducible refine Fr.setNew ?_ (Nat.le_succ _) _)

theorem popno {w : World} {h ab db : Nat} {s : HS} (H : HAt w h ab db s)  (line ok oa ob oc a b c n t p back ret : Int) (k1 : ¬ line = 34) (k2 : ¬ line = 35) (k3 : ¬ line = 36) :
    Calls Try.prog 186 #[.pointer (some ⟨h, 0, none⟩), .agg #[.int .i64 line, .int .i64 ok, .int .i64 oa, .int .i64 ob, .int .i64 oc, .int .u64 a, .int .u64 b, .int .u64 c, .int .u64 n, .int .u64 t, .int .u64 p, .int .i64 back, .int .i64 ret]] w fun e w' => e = .returned (.tuple #[.agg #[.int .i64 line, .int .i64 ok, .int .i64 oa, .int .i64 ob, .int .i64 oc, .int .u64 a, .int .u64 b, .int .u64 c, .int .u64 n, .int .u64 t, .int .u64 p, .int .i64 back, .int .i64 ret], .bool false, .bool false]) ∧ (HAt w' h ab db (s) ∧ Fr [h, db] w w') := by
  have n0 := H.blk.lt
  have n1 := H.ar.dat.lt
  have n2 := H.ar.hdr.lt
  have hXn : w.heap.size ∉ [h, db] := by simp; omega
  have hRn : w.heap.size + 1 ∉ [h, db] := by simp; omega
  have HH := (H.alloc (.cells #[.int .i64 line, .int .i64 ok, .int .i64 oa, .int .i64 ob, .int .i64 oc, .int .u64 a, .int .u64 b, .int .u64 c, .int .u64 n, .int .u64 t, .int .u64 p, .int .i64 back, .int .i64 ret] 54)).alloc (.cells #[.int .i64 0, .int .i64 0, .int .i64 0, .int .i64 0, .int .i64 0, .int .u64 0, .int .u64 0, .int .u64 0, .int .u64 0, .int .u64 0, .int .u64 0, .int .i64 0, .int .i64 0] 54)
  have hX := (Blk.new w [.int .i64 line, .int .i64 ok, .int .i64 oa, .int .i64 ob, .int .i64 oc, .int .u64 a, .int .u64 b, .int .u64 c, .int .u64 n, .int .u64 t, .int .u64 p, .int .i64 back, .int .i64 ret] 54).alloc (.cells #[.int .i64 0, .int .i64 0, .int .i64 0, .int .i64 0, .int .i64 0, .int .u64 0, .int .u64 0, .int .u64 0, .int .u64 0, .int .u64 0, .int .u64 0, .int .i64 0, .int .i64 0] 54)
  have hR := Blk.new (w.alloc (.cells #[.int .i64 line, .int .i64 ok, .int .i64 oa, .int .i64 ob, .int .i64 oc, .int .u64 a, .int .u64 b, .int .u64 c, .int .u64 n, .int .u64 t, .int .u64 p, .int .i64 back, .int .i64 ret] 54)) [.int .i64 0, .int .i64 0, .int .i64 0, .int .i64 0, .int .i64 0, .int .u64 0, .int .u64 0, .int .u64 0, .int .u64 0, .int .u64 0, .int .u64 0, .int .i64 0, .int .i64 0] 54
  simp only [World.size_alloc] at hR
  have hFF := ((Fr.refl [h, db] w).alloc (.cells #[.int .i64 line, .int .i64 ok, .int .i64 oa, .int .i64 ob, .int .i64 oc, .int .u64 a, .int .u64 b, .int .u64 c, .int .u64 n, .int .u64 t, .int .u64 p, .int .i64 back, .int .i64 ret] 54)).alloc (.cells #[.int .i64 0, .int .i64 0, .int .i64 0, .int .i64 0, .int .i64 0, .int .u64 0, .int .u64 0, .int .u64 0, .int .u64 0, .int .u64 0, .int .u64 0, .int .i64 0, .int .i64 0] 54)
  have a1 : h ≠ w.heap.size := by omega
  have a2 : db ≠ w.heap.size := by omega
  have a3 : ab ≠ w.heap.size := by omega
  have b1 : h ≠ w.heap.size + 1 := by omega
  have b2 : db ≠ w.heap.size + 1 := by omega
  have b3 : ab ≠ w.heap.size + 1 := by omega
  have d1 : ¬ w.heap.size = h := by omega
  have d2 : ¬ w.heap.size = db := by omega
  have d3 : ¬ w.heap.size + 1 = h := by omega
  have d4 : ¬ w.heap.size + 1 = db := by omega
  go_enter Try.func186, Try.ntmps186
  go_wp2
  refine bodyPost_ret (v := .tuple #[.agg #[.int .i64 line, .int .i64 ok, .int .i64 oa, .int .i64 ob, .int .i64 oc, .int .u64 a, .int .u64 b, .int .u64 c, .int .u64 n, .int .u64 t, .int .u64 p, .int .i64 back, .int .i64 ret], .bool false, .bool false]) (by simp [results, Try.results186, go_sem]) rfl ⟨rfl, ?_, ?_⟩
  · exact (H.alloc _).alloc _
  · exact ((Fr.refl _ _).alloc _).alloc _

theorem popnil (w : World)  (line ok oa ob oc a b c n t p back ret : Int)  :
    Calls Try.prog 186 #[.pointer none, .agg #[.int .i64 line, .int .i64 ok, .int .i64 oa, .int .i64 ob, .int .i64 oc, .int .u64 a, .int .u64 b, .int .u64 c, .int .u64 n, .int .u64 t, .int .u64 p, .int .i64 back, .int .i64 ret]] w fun e w' => e = .returned (.tuple #[.agg #[.int .i64 line, .int .i64 ok, .int .i64 oa, .int .i64 ob, .int .i64 oc, .int .u64 a, .int .u64 b, .int .u64 c, .int .u64 n, .int .u64 t, .int .u64 p, .int .i64 back, .int .i64 ret], .bool false, .bool false]) ∧ Fr [] w w' := by
  go_enter Try.func186, Try.ntmps186
  go_wp2
  refine bodyPost_ret (v := .tuple #[.agg #[.int .i64 line, .int .i64 ok, .int .i64 oa, .int .i64 ob, .int .i64 oc, .int .u64 a, .int .u64 b, .int .u64 c, .int .u64 n, .int .u64 t, .int .u64 p, .int .i64 back, .int .i64 ret], .bool false, .bool false]) (by simp [results, Try.results186, go_sem]) rfl ⟨rfl, ((Fr.refl _ _).alloc _).alloc _⟩

end Go.Proofs.Ytolkgdchinaonaa
