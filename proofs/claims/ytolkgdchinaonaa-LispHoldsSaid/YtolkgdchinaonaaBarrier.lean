/- Package barrier: Begin, on, Step line by line. -/
import Derived.Test.YtolkgdchinaonaaPlain
import Derived.Test.YtolkgdchinaonaaHandNew
import Derived.Test.YtolkgdchinaonaaMutV
namespace Go.Proofs.Ytolkgdchinaonaa
open Go.RowKit
set_option linter.unusedVariables false
set_option linter.unusedSimpArgs false


theorem on_any (line ok oa ob oc a b c n t p back ret : Int) (w : World) :
    Calls Try.prog 204 #[.agg #[.int .i64 line, .int .i64 ok, .int .i64 oa, .int .i64 ob, .int .i64 oc, .int .u64 a, .int .u64 b, .int .u64 c, .int .u64 n, .int .u64 t, .int .u64 p, .int .i64 back, .int .i64 ret]] w fun e w' => e = .returned (.agg #[.int .i64 back, .int .i64 ok, .int .i64 oa, .int .i64 ob, .int .i64 oc, .int .u64 a, .int .u64 b, .int .u64 c, .int .u64 n, .int .u64 t, .int .u64 (0), .int .i64 (0), .int .i64 ret]) ∧ Fr [] w w' := by
  have hX := Blk.new w [.int .i64 line, .int .i64 ok, .int .i64 oa, .int .i64 ob, .int .i64 oc, .int .u64 a, .int .u64 b, .int .u64 c, .int .u64 n, .int .u64 t, .int .u64 p, .int .i64 back, .int .i64 ret] 54
  go_enter Try.func204, Try.ntmps204
  go_wp2
  exact bodyPost_ret (v := .agg #[.int .i64 back, .int .i64 ok, .int .i64 oa, .int .i64 ob, .int .i64 oc, .int .u64 a, .int .u64 b, .int .u64 c, .int .u64 n, .int .u64 t, .int .u64 (0), .int .i64 (0), .int .i64 ret]) (by simp [results, Try.results204, go_sem]) rfl ⟨rfl, by repeat (first | with_reducible exact (Fr.refl [] w).alloc _ | with_reducible exact ((Fr.refl [] w).alloc _).alloc _ | with_reducible refine Fr.setNew ?_ (Nat.le_refl _) _ | with_reducible refine Fr.setNew ?_ (Nat.le_succ _) _)⟩

theorem begin_any (x : MutV) (u back : Int) (h0 : 0 ≤ u) (h1 : u < 18446744073709551616) (w : World) :
    Calls Try.prog 203 #[x.val, .int .u64 u, .int .i64 back] w fun e w' => e = .returned (brBegin x u back).val ∧ Fr [] w w' := by
  obtain ⟨line, ok, oa, ob, oc, a, b, c, n, t, p, bk, ret⟩ := x
  unfold MutV.val brBegin
  have HI := hid (isCell_any u h0 h1)
  by_cases hc : isCell u = true
  · rw [if_pos hc]
    simp only [hc, if_true] at HI
    go_enter Try.func203, Try.ntmps203
    go_wp2_with (first | (go_at_call 144; refine (HI.out _).mono ?_; rintro e w2 ⟨rfl, rfl⟩))
    exact bodyPost_ret (v := .agg #[.int .i64 (80), .int .i64 ok, .int .i64 oa, .int .i64 ob, .int .i64 oc, .int .u64 a, .int .u64 b, .int .u64 c, .int .u64 n, .int .u64 t, .int .u64 u, .int .i64 back, .int .i64 ret]) (by simp [results, Try.results203, go_sem]) rfl ⟨rfl, by repeat (first | with_reducible exact (Fr.refl [] w).alloc _ | with_reducible exact ((Fr.refl [] w).alloc _).alloc _ | with_reducible refine Fr.setNew ?_ (Nat.le_refl _) _ | with_reducible refine Fr.setNew ?_ (Nat.le_succ _) _)⟩
  · have hc : isCell u = false := by simpa using hc
    rw [if_neg (by simp [hc])]
    simp only [hc, Bool.false_eq_true, if_false] at HI
    go_enter Try.func203, Try.ntmps203
    go_wp2_with (first | (go_at_call 144; refine (HI.out _).mono ?_; rintro e w2 ⟨rfl, rfl⟩))
    exact bodyPost_ret (v := .agg #[.int .i64 back, .int .i64 ok, .int .i64 oa, .int .i64 ob, .int .i64 oc, .int .u64 a, .int .u64 b, .int .u64 c, .int .u64 n, .int .u64 t, .int .u64 (0), .int .i64 (0), .int .i64 ret]) (by simp [results, Try.results203, go_sem]) rfl ⟨rfl, by repeat (first | with_reducible exact (Fr.refl [] w).alloc _ | with_reducible exact ((Fr.refl [] w).alloc _).alloc _ | with_reducible refine Fr.setNew ?_ (Nat.le_refl _) _ | with_reducible refine Fr.setNew ?_ (Nat.le_succ _) _)⟩

theorem br80y {w : World} {h ab db : Nat} {s : HS} (H : HAt w h ab db s)  (ok oa ob oc a b c n t p back ret : Int) (hp0 : 0 ≤ p) (hp1 : p < 18446744073709551616) (hw : s.won (s.c.fieldP p 2) 0 = true) :
    Calls Try.prog 187 #[.pointer (some ⟨h, 0, none⟩), .agg #[.int .i64 (80), .int .i64 ok, .int .i64 oa, .int .i64 ob, .int .i64 oc, .int .u64 a, .int .u64 b, .int .u64 c, .int .u64 n, .int .u64 t, .int .u64 p, .int .i64 back, .int .i64 ret]] w fun e w' => e = .returned (.tuple #[.agg #[.int .i64 (81), .int .i64 ok, .int .i64 oa, .int .i64 ob, .int .i64 oc, .int .u64 a, .int .u64 b, .int .u64 c, .int .u64 n, .int .u64 t, .int .u64 (0), .int .i64 back, .int .i64 ret], .bool true]) ∧ (HAt w' h ab db (s.doIt (aCas (s.c.fieldP p 2) 0 1)) ∧ Fr [h, db] w w') := by
  have n0 := H.blk.lt
  have n1 := H.ar.dat.lt
  have n2 := H.ar.hdr.lt
  have hXn : w.heap.size ∉ [h, db] := by simp; omega
  have hRn : w.heap.size + 1 ∉ [h, db] := by simp; omega
  have HH := (H.alloc (.cells #[.int .i64 (80), .int .i64 ok, .int .i64 oa, .int .i64 ob, .int .i64 oc, .int .u64 a, .int .u64 b, .int .u64 c, .int .u64 n, .int .u64 t, .int .u64 p, .int .i64 back, .int .i64 ret] 54)).alloc (.cells #[.int .i64 0, .int .i64 0, .int .i64 0, .int .i64 0, .int .i64 0, .int .u64 0, .int .u64 0, .int .u64 0, .int .u64 0, .int .u64 0, .int .u64 0, .int .i64 0, .int .i64 0] 54)
  have hX := (Blk.new w [.int .i64 (80), .int .i64 ok, .int .i64 oa, .int .i64 ob, .int .i64 oc, .int .u64 a, .int .u64 b, .int .u64 c, .int .u64 n, .int .u64 t, .int .u64 p, .int .i64 back, .int .i64 ret] 54).alloc (.cells #[.int .i64 0, .int .i64 0, .int .i64 0, .int .i64 0, .int .i64 0, .int .u64 0, .int .u64 0, .int .u64 0, .int .u64 0, .int .u64 0, .int .u64 0, .int .i64 0, .int .i64 0] 54)
  have hR := Blk.new (w.alloc (.cells #[.int .i64 (80), .int .i64 ok, .int .i64 oa, .int .i64 ob, .int .i64 oc, .int .u64 a, .int .u64 b, .int .u64 c, .int .u64 n, .int .u64 t, .int .u64 p, .int .i64 back, .int .i64 ret] 54)) [.int .i64 0, .int .i64 0, .int .i64 0, .int .i64 0, .int .i64 0, .int .u64 0, .int .u64 0, .int .u64 0, .int .u64 0, .int .u64 0, .int .u64 0, .int .i64 0, .int .i64 0] 54
  simp only [World.size_alloc] at hR
  have hFF := ((Fr.refl [h, db] w).alloc (.cells #[.int .i64 (80), .int .i64 ok, .int .i64 oa, .int .i64 ob, .int .i64 oc, .int .u64 a, .int .u64 b, .int .u64 c, .int .u64 n, .int .u64 t, .int .u64 p, .int .i64 back, .int .i64 ret] 54)).alloc (.cells #[.int .i64 0, .int .i64 0, .int .i64 0, .int .i64 0, .int .i64 0, .int .u64 0, .int .u64 0, .int .u64 0, .int .u64 0, .int .u64 0, .int .u64 0, .int .i64 0, .int .i64 0] 54)
  have a1 : h ≠ w.heap.size := by omega
  have a2 : db ≠ w.heap.size := by omega
  have a3 : ab ≠ w.heap.size := by omega
  have b1 : h ≠ w.heap.size + 1 := by omega
  have b2 : db ≠ w.heap.size + 1 := by omega
  have b3 : ab ≠ w.heap.size + 1 := by omega
  have d1 : ¬ w.heap.size = h := by omega
  have d2 : ¬ w.heap.size = db := by omega
  have d3 : ¬ w.heap.size + 1 = h := by omega
  have d4 : ¬ w.heap.size + 1 = db := by omega
  go_enter Try.func187, Try.ntmps187
  go_wp2_with (first | (go_at_call 147; refine (field_any HH _ _ (by omega) (by omega)).mono ?_; rintro e w2 ⟨rfl, hF2⟩; (have HH := HH.kept0 hF2); (have hX := hX.kept hF2 (by simp)); (have hR := hR.kept hF2 (by simp)); (have hFF := hFF.trans (hF2.mono (by simp))); (have kX := hX.cell); (have fX := hX.free); (have kR := hR.cell); (have fR := hR.free)) | (go_at_call 146; refine (hcas_any HH _ _ _ (by omega) (by omega)).mono ?_; rintro e w2 ⟨rfl, HH, hF2⟩; (have hX := hX.kept hF2 hXn); (have hR := hR.kept hF2 hRn); (have hFF := hFF.trans hF2); (have kX := hX.cell); (have fX := hX.free); (have kR := hR.cell); (have fR := hR.free)))
  refine bodyPost_ret (v := .tuple #[.agg #[.int .i64 (81), .int .i64 ok, .int .i64 oa, .int .i64 ob, .int .i64 oc, .int .u64 a, .int .u64 b, .int .u64 c, .int .u64 n, .int .u64 t, .int .u64 (0), .int .i64 back, .int .i64 ret], .bool true]) (by simp [results, Try.results187, go_sem, kX, kR]) rfl ⟨rfl, ?_, ?_⟩
  · repeat (first | with_reducible exact HH | with_reducible refine HAt.other ?_ a1 a3 a2 _ | with_reducible refine HAt.other ?_ b1 b3 b2 _)
  · repeat (first | with_reducible exact hFF | with_reducible refine Fr.setNew ?_ (Nat.le_refl _) _ | with_reducible refine Fr.setNew ?_ (Nat.le_succ _) _)

theorem br80n {w : World} {h ab db : Nat} {s : HS} (H : HAt w h ab db s)  (ok oa ob oc a b c n t p back ret : Int) (hp0 : 0 ≤ p) (hp1 : p < 18446744073709551616) (hw : s.won (s.c.fieldP p 2) 0 = false) :
    Calls Try.prog 187 #[.pointer (some ⟨h, 0, none⟩), .agg #[.int .i64 (80), .int .i64 ok, .int .i64 oa, .int .i64 ob, .int .i64 oc, .int .u64 a, .int .u64 b, .int .u64 c, .int .u64 n, .int .u64 t, .int .u64 p, .int .i64 back, .int .i64 ret]] w fun e w' => e = .returned (.tuple #[.agg #[.int .i64 back, .int .i64 ok, .int .i64 oa, .int .i64 ob, .int .i64 oc, .int .u64 a, .int .u64 b, .int .u64 c, .int .u64 n, .int .u64 t, .int .u64 (0), .int .i64 (0), .int .i64 ret], .bool true]) ∧ (HAt w' h ab db (s.doIt (aCas (s.c.fieldP p 2) 0 1)) ∧ Fr [h, db] w w') := by
  have n0 := H.blk.lt
  have n1 := H.ar.dat.lt
  have n2 := H.ar.hdr.lt
  have hXn : w.heap.size ∉ [h, db] := by simp; omega
  have hRn : w.heap.size + 1 ∉ [h, db] := by simp; omega
  have HH := (H.alloc (.cells #[.int .i64 (80), .int .i64 ok, .int .i64 oa, .int .i64 ob, .int .i64 oc, .int .u64 a, .int .u64 b, .int .u64 c, .int .u64 n, .int .u64 t, .int .u64 p, .int .i64 back, .int .i64 ret] 54)).alloc (.cells #[.int .i64 0, .int .i64 0, .int .i64 0, .int .i64 0, .int .i64 0, .int .u64 0, .int .u64 0, .int .u64 0, .int .u64 0, .int .u64 0, .int .u64 0, .int .i64 0, .int .i64 0] 54)
  have hX := (Blk.new w [.int .i64 (80), .int .i64 ok, .int .i64 oa, .int .i64 ob, .int .i64 oc, .int .u64 a, .int .u64 b, .int .u64 c, .int .u64 n, .int .u64 t, .int .u64 p, .int .i64 back, .int .i64 ret] 54).alloc (.cells #[.int .i64 0, .int .i64 0, .int .i64 0, .int .i64 0, .int .i64 0, .int .u64 0, .int .u64 0, .int .u64 0, .int .u64 0, .int .u64 0, .int .u64 0, .int .i64 0, .int .i64 0] 54)
  have hR := Blk.new (w.alloc (.cells #[.int .i64 (80), .int .i64 ok, .int .i64 oa, .int .i64 ob, .int .i64 oc, .int .u64 a, .int .u64 b, .int .u64 c, .int .u64 n, .int .u64 t, .int .u64 p, .int .i64 back, .int .i64 ret] 54)) [.int .i64 0, .int .i64 0, .int .i64 0, .int .i64 0, .int .i64 0, .int .u64 0, .int .u64 0, .int .u64 0, .int .u64 0, .int .u64 0, .int .u64 0, .int .i64 0, .int .i64 0] 54
  simp only [World.size_alloc] at hR
  have hFF := ((Fr.refl [h, db] w).alloc (.cells #[.int .i64 (80), .int .i64 ok, .int .i64 oa, .int .i64 ob, .int .i64 oc, .int .u64 a, .int .u64 b, .int .u64 c, .int .u64 n, .int .u64 t, .int .u64 p, .int .i64 back, .int .i64 ret] 54)).alloc (.cells #[.int .i64 0, .int .i64 0, .int .i64 0, .int .i64 0, .int .i64 0, .int .u64 0, .int .u64 0, .int .u64 0, .int .u64 0, .int .u64 0, .int .u64 0, .int .i64 0, .int .i64 0] 54)
  have a1 : h ≠ w.heap.size := by omega
  have a2 : db ≠ w.heap.size := by omega
  have a3 : ab ≠ w.heap.size := by omega
  have b1 : h ≠ w.heap.size + 1 := by omega
  have b2 : db ≠ w.heap.size + 1 := by omega
  have b3 : ab ≠ w.heap.size + 1 := by omega
  have d1 : ¬ w.heap.size = h := by omega
  have d2 : ¬ w.heap.size = db := by omega
  have d3 : ¬ w.heap.size + 1 = h := by omega
  have d4 : ¬ w.heap.size + 1 = db := by omega
  go_enter Try.func187, Try.ntmps187
  go_wp2_with (first | (go_at_call 147; refine (field_any HH _ _ (by omega) (by omega)).mono ?_; rintro e w2 ⟨rfl, hF2⟩; (have HH := HH.kept0 hF2); (have hX := hX.kept hF2 (by simp)); (have hR := hR.kept hF2 (by simp)); (have hFF := hFF.trans (hF2.mono (by simp))); (have kX := hX.cell); (have fX := hX.free); (have kR := hR.cell); (have fR := hR.free)) | (go_at_call 146; refine (hcas_any HH _ _ _ (by omega) (by omega)).mono ?_; rintro e w2 ⟨rfl, HH, hF2⟩; (have hX := hX.kept hF2 hXn); (have hR := hR.kept hF2 hRn); (have hFF := hFF.trans hF2); (have kX := hX.cell); (have fX := hX.free); (have kR := hR.cell); (have fR := hR.free)) | (go_at_call 204; refine (on_any _ _ _ _ _ _ _ _ _ _ _ _ _ _).mono ?_; rintro e w2 ⟨rfl, hF2⟩; (have HH := HH.kept0 hF2); (have hX := hX.kept hF2 (by simp)); (have hR := hR.kept hF2 (by simp)); (have hFF := hFF.trans (hF2.mono (by simp))); (have kX := hX.cell); (have fX := hX.free); (have kR := hR.cell); (have fR := hR.free)))
  refine bodyPost_ret (v := .tuple #[.agg #[.int .i64 back, .int .i64 ok, .int .i64 oa, .int .i64 ob, .int .i64 oc, .int .u64 a, .int .u64 b, .int .u64 c, .int .u64 n, .int .u64 t, .int .u64 (0), .int .i64 (0), .int .i64 ret], .bool true]) (by simp [results, Try.results187, go_sem, kX, kR]) rfl ⟨rfl, ?_, ?_⟩
  · repeat (first | with_reducible exact HH | with_reducible refine HAt.other ?_ a1 a3 a2 _ | with_reducible refine HAt.other ?_ b1 b3 b2 _)
  · repeat (first | with_reducible exact hFF | with_reducible refine Fr.setNew ?_ (Nat.le_refl _) _ | with_reducible refine Fr.setNew ?_ (Nat.le_succ _) _)

theorem br81 {w : World} {h ab db : Nat} {s : HS} (H : HAt w h ab db s)  (ok oa ob oc a b c n t p back ret : Int)  :
    Calls Try.prog 187 #[.pointer (some ⟨h, 0, none⟩), .agg #[.int .i64 (81), .int .i64 ok, .int .i64 oa, .int .i64 ob, .int .i64 oc, .int .u64 a, .int .u64 b, .int .u64 c, .int .u64 n, .int .u64 t, .int .u64 p, .int .i64 back, .int .i64 ret]] w fun e w' => e = .returned (.tuple #[.agg #[.int .i64 back, .int .i64 ok, .int .i64 oa, .int .i64 ob, .int .i64 oc, .int .u64 a, .int .u64 b, .int .u64 c, .int .u64 n, .int .u64 t, .int .u64 (0), .int .i64 (0), .int .i64 ret], .bool true]) ∧ (HAt w' h ab db (s.doIt (aStore 2 1)) ∧ Fr [h, db] w w') := by
  have n0 := H.blk.lt
  have n1 := H.ar.dat.lt
  have n2 := H.ar.hdr.lt
  have hXn : w.heap.size ∉ [h, db] := by simp; omega
  have hRn : w.heap.size + 1 ∉ [h, db] := by simp; omega
  have HH := (H.alloc (.cells #[.int .i64 (81), .int .i64 ok, .int .i64 oa, .int .i64 ob, .int .i64 oc, .int .u64 a, .int .u64 b, .int .u64 c, .int .u64 n, .int .u64 t, .int .u64 p, .int .i64 back, .int .i64 ret] 54)).alloc (.cells #[.int .i64 0, .int .i64 0, .int .i64 0, .int .i64 0, .int .i64 0, .int .u64 0, .int .u64 0, .int .u64 0, .int .u64 0, .int .u64 0, .int .u64 0, .int .i64 0, .int .i64 0] 54)
  have hX := (Blk.new w [.int .i64 (81), .int .i64 ok, .int .i64 oa, .int .i64 ob, .int .i64 oc, .int .u64 a, .int .u64 b, .int .u64 c, .int .u64 n, .int .u64 t, .int .u64 p, .int .i64 back, .int .i64 ret] 54).alloc (.cells #[.int .i64 0, .int .i64 0, .int .i64 0, .int .i64 0, .int .i64 0, .int .u64 0, .int .u64 0, .int .u64 0, .int .u64 0, .int .u64 0, .int .u64 0, .int .i64 0, .int .i64 0] 54)
  have hR := Blk.new (w.alloc (.cells #[.int .i64 (81), .int .i64 ok, .int .i64 oa, .int .i64 ob, .int .i64 oc, .int .u64 a, .int .u64 b, .int .u64 c, .int .u64 n, .int .u64 t, .int .u64 p, .int .i64 back, .int .i64 ret] 54)) [.int .i64 0, .int .i64 0, .int .i64 0, .int .i64 0, .int .i64 0, .int .u64 0, .int .u64 0, .int .u64 0, .int .u64 0, .int .u64 0, .int .u64 0, .int .i64 0, .int .i64 0] 54
  simp only [World.size_alloc] at hR
  have hFF := ((Fr.refl [h, db] w).alloc (.cells #[.int .i64 (81), .int .i64 ok, .int .i64 oa, .int .i64 ob, .int .i64 oc, .int .u64 a, .int .u64 b, .int .u64 c, .int .u64 n, .int .u64 t, .int .u64 p, .int .i64 back, .int .i64 ret] 54)).alloc (.cells #[.int .i64 0, .int .i64 0, .int .i64 0, .int .i64 0, .int .i64 0, .int .u64 0, .int .u64 0, .int .u64 0, .int .u64 0, .int .u64 0, .int .u64 0, .int .i64 0, .int .i64 0] 54)
  have a1 : h ≠ w.heap.size := by omega
  have a2 : db ≠ w.heap.size := by omega
  have a3 : ab ≠ w.heap.size := by omega
  have b1 : h ≠ w.heap.size + 1 := by omega
  have b2 : db ≠ w.heap.size + 1 := by omega
  have b3 : ab ≠ w.heap.size + 1 := by omega
  have d1 : ¬ w.heap.size = h := by omega
  have d2 : ¬ w.heap.size = db := by omega
  have d3 : ¬ w.heap.size + 1 = h := by omega
  have d4 : ¬ w.heap.size + 1 = db := by omega
  go_enter Try.func187, Try.ntmps187
  go_wp2_with (first | (go_at_call 39; refine (hstore_any HH _ _ (by omega)).mono ?_; rintro e w2 ⟨rfl, HH, hF2⟩; (have hX := hX.kept hF2 hXn); (have hR := hR.kept hF2 hRn); (have hFF := hFF.trans hF2); (have kX := hX.cell); (have fX := hX.free); (have kR := hR.cell); (have fR := hR.free)) | (go_at_call 204; refine (on_any _ _ _ _ _ _ _ _ _ _ _ _ _ _).mono ?_; rintro e w2 ⟨rfl, hF2⟩; (have HH := HH.kept0 hF2); (have hX := hX.kept hF2 (by simp)); (have hR := hR.kept hF2 (by simp)); (have hFF := hFF.trans (hF2.mono (by simp))); (have kX := hX.cell); (have fX := hX.free); (have kR := hR.cell); (have fR := hR.free)))
  refine bodyPost_ret (v := .tuple #[.agg #[.int .i64 back, .int .i64 ok, .int .i64 oa, .int .i64 ob, .int .i64 oc, .int .u64 a, .int .u64 b, .int .u64 c, .int .u64 n, .int .u64 t, .int .u64 (0), .int .i64 (0), .int .i64 ret], .bool true]) (by simp [results, Try.results187, go_sem, kX, kR]) rfl ⟨rfl, ?_, ?_⟩
  · repeat (first | with_reducible exact HH | with_reducible refine HAt.other ?_ a1 a3 a2 _ | with_reducible refine HAt.other ?_ b1 b3 b2 _)
  · repeat (first | with_reducible exact hFF | with_reducible refine Fr.setNew ?_ (Nat.le_refl _) _ | with_reducible refine Fr.setNew ?_ (Nat.le_succ _) _)

theorem brno {w : World} {h ab db : Nat} {s : HS} (H : HAt w h ab db s)  (line ok oa ob oc a b c n t p back ret : Int) (k1 : ¬ line = 80) (k2 : ¬ line = 81) :
    Calls Try.prog 187 #[.pointer (some ⟨h, 0, none⟩), .agg #[.int .i64 line, .int .i64 ok, .int .i64 oa, .int .i64 ob, .int .i64 oc, .int .u64 a, .int .u64 b, .int .u64 c, .int .u64 n, .int .u64 t, .int .u64 p, .int .i64 back, .int .i64 ret]] w fun e w' => e = .returned (.tuple #[.agg #[.int .i64 line, .int .i64 ok, .int .i64 oa, .int .i64 ob, .int .i64 oc, .int .u64 a, .int .u64 b, .int .u64 c, .int .u64 n, .int .u64 t, .int .u64 p, .int .i64 back, .int .i64 ret], .bool false]) ∧ (HAt w' h ab db (s) ∧ Fr [h, db] w w') := by
  have n0 := H.blk.lt
  have n1 := H.ar.dat.lt
  have n2 := H.ar.hdr.lt
  have hXn : w.heap.size ∉ [h, db] := by simp; omega
  have hRn : w.heap.size + 1 ∉ [h, db] := by simp; omega
  have HH := (H.alloc (.cells #[.int .i64 line, .int .i64 ok, .int .i64 oa, .int .i64 ob, .int .i64 oc, .int .u64 a, .int .u64 b, .int .u64 c, .int .u64 n, .int .u64 t, .int .u64 p, .int .i64 back, .int .i64 ret] 54)).alloc (.cells #[.int .i64 0, .int .i64 0, .int .i64 0, .int .i64 0, .int .i64 0, .int .u64 0, .int .u64 0, .int .u64 0, .int .u64 0, .int .u64 0, .int .u64 0, .int .i64 0, .int .i64 0] 54)
  have hX := (Blk.new w [.int .i64 line, .int .i64 ok, .int .i64 oa, .int .i64 ob, .int .i64 oc, .int .u64 a, .int .u64 b, .int .u64 c, .int .u64 n, .int .u64 t, .int .u64 p, .int .i64 back, .int .i64 ret] 54).alloc (.cells #[.int .i64 0, .int .i64 0, .int .i64 0, .int .i64 0, .int .i64 0, .int .u64 0, .int .u64 0, .int .u64 0, .int .u64 0, .int .u64 0, .int .u64 0, .int .i64 0, .int .i64 0] 54)
  have hR := Blk.new (w.alloc (.cells #[.int .i64 line, .int .i64 ok, .int .i64 oa, .int .i64 ob, .int .i64 oc, .int .u64 a, .int .u64 b, .int .u64 c, .int .u64 n, .int .u64 t, .int .u64 p, .int .i64 back, .int .i64 ret] 54)) [.int .i64 0, .int .i64 0, .int .i64 0, .int .i64 0, .int .i64 0, .int .u64 0, .int .u64 0, .int .u64 0, .int .u64 0, .int .u64 0, .int .u64 0, .int .i64 0, .int .i64 0] 54
  simp only [World.size_alloc] at hR
  have hFF := ((Fr.refl [h, db] w).alloc (.cells #[.int .i64 line, .int .i64 ok, .int .i64 oa, .int .i64 ob, .int .i64 oc, .int .u64 a, .int .u64 b, .int .u64 c, .int .u64 n, .int .u64 t, .int .u64 p, .int .i64 back, .int .i64 ret] 54)).alloc (.cells #[.int .i64 0, .int .i64 0, .int .i64 0, .int .i64 0, .int .i64 0, .int .u64 0, .int .u64 0, .int .u64 0, .int .u64 0, .int .u64 0, .int .u64 0, .int .i64 0, .int .i64 0] 54)
  have a1 : h ≠ w.heap.size := by omega
  have a2 : db ≠ w.heap.size := by omega
  have a3 : ab ≠ w.heap.size := by omega
  have b1 : h ≠ w.heap.size + 1 := by omega
  have b2 : db ≠ w.heap.size + 1 := by omega
  have b3 : ab ≠ w.heap.size + 1 := by omega
  have d1 : ¬ w.heap.size = h := by omega
  have d2 : ¬ w.heap.size = db := by omega
  have d3 : ¬ w.heap.size + 1 = h := by omega
  have d4 : ¬ w.heap.size + 1 = db := by omega
  go_enter Try.func187, Try.ntmps187
  go_wp2
  refine bodyPost_ret (v := .tuple #[.agg #[.int .i64 line, .int .i64 ok, .int .i64 oa, .int .i64 ob, .int .i64 oc, .int .u64 a, .int .u64 b, .int .u64 c, .int .u64 n, .int .u64 t, .int .u64 p, .int .i64 back, .int .i64 ret], .bool false]) (by simp [results, Try.results187, go_sem]) rfl ⟨rfl, ?_, ?_⟩
  · exact (H.alloc _).alloc _
  · exact ((Fr.refl _ _).alloc _).alloc _

theorem brnil (w : World)  (line ok oa ob oc a b c n t p back ret : Int)  :
    Calls Try.prog 187 #[.pointer none, .agg #[.int .i64 line, .int .i64 ok, .int .i64 oa, .int .i64 ob, .int .i64 oc, .int .u64 a, .int .u64 b, .int .u64 c, .int .u64 n, .int .u64 t, .int .u64 p, .int .i64 back, .int .i64 ret]] w fun e w' => e = .returned (.tuple #[.agg #[.int .i64 line, .int .i64 ok, .int .i64 oa, .int .i64 ob, .int .i64 oc, .int .u64 a, .int .u64 b, .int .u64 c, .int .u64 n, .int .u64 t, .int .u64 p, .int .i64 back, .int .i64 ret], .bool false]) ∧ Fr [] w w' := by
  go_enter Try.func187, Try.ntmps187
  go_wp2
  refine bodyPost_ret (v := .tuple #[.agg #[.int .i64 line, .int .i64 ok, .int .i64 oa, .int .i64 ob, .int .i64 oc, .int .u64 a, .int .u64 b, .int .u64 c, .int .u64 n, .int .u64 t, .int .u64 p, .int .i64 back, .int .i64 ret], .bool false]) (by simp [results, Try.results187, go_sem]) rfl ⟨rfl, ((Fr.refl _ _).alloc _).alloc _⟩

end Go.Proofs.Ytolkgdchinaonaa
