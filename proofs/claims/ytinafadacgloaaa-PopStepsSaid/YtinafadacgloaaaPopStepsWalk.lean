/- mudlarklaw13.PopSteps: the walk. -/
import Derived.Test.YtinafadacgloaaaPopAny
import Derived.Test.YtinafadacgloaaaLaw10
import Derived.Test.YtinafadacgloaaaAwake13
import Derived.Test.YtinafadacgloaaaMutWf
namespace Go.Proofs.Ytinafadacgloaaa
open Go.RowKit
set_option linter.unusedVariables false
set_option linter.unusedSimpArgs false

set_option maxRecDepth 100000 in
set_option maxHeartbeats 4000000 in
theorem popSteps_any (c : Cfg) (v : Value) (l : List Int) (m : Int) (x : MutV) (w : World) (hx : x.Wf) (hv : RdS w v l.length (u64s l)) (hl : l.length ≤ 35184372088832) (hwf : ∀ y, y ∈ l → 0 ≤ y ∧ y < 18446744073709551616) :
    Calls Try.prog 8 #[c.val, v, .int .i64 m, x.val] w fun e w' => e = .returned (.bool true) ∧ Fr [] w w' := by
  obtain ⟨ua, uc, rfl, hu⟩ := hv.elim
  clear hu
  have HX := fun {W : World} {h ab db : Nat} {s : HS} (H : HAt W h ab db s) => hid (pop_any H x hx)
  have HY := fun {W : World} {r rd cap : Nat} {ext : List Value} {s : HS} (H : RAt W r rd cap ext s) => hid (rpop_any H x hx)
  have HN := hid (fun W => popnil W x.line x.ok x.oa x.ob x.oc x.a x.b x.c x.n x.t x.p x.back x.ret)
  by_cases hbo : bothOk c l.length
  · have HBo := fun W (f : Fr [] w W) => hid (both_ok (w := W) hbo.1 hbo.2.1 _ l (hv.kept0 f) hbo.2.2 hwf)
    clear hv hbo hl hwf HN hx
    obtain ⟨s0, hs0⟩ : ∃ s : HS, s = ⟨c, l, Acc.z⟩ := ⟨_, rfl⟩
    have hs0 := hid hs0
    obtain ⟨res, hres⟩ : ∃ r, r = popM s0 x := ⟨_, rfl⟩
    have HX := fun {W : World} {h ab db : Nat} (H : HAt W h ab db s0) => (HX H).out
    have HY := fun {W : World} {r rd cap : Nat} {ext : List Value} (H : RAt W r rd cap ext s0) => (HY H).out
    rw [← hres] at HX HY
    clear hres
    obtain ⟨⟨line2, ok2, oa2, ob2, oc2, a2, b2, cq2, n2, t2, p2, back2, ret2⟩, fl0, fl1, s2⟩ := res
    simp only [MutV.val] at HX HY
    have HAl := fun {W : World} {h ab db r rd cap : Nat} {ext : List Value} (H : HAt W h ab db s2) (R : RAt W r rd cap ext s2) => hid (by have := alike_any H R; simp only [decide_true, Bool.and_self] at this; exact this)
    obtain ⟨line, ok, oa, ob, oc, a, b, cq, n, t, p, back, ret⟩ := x
    unfold MutV.val
    obtain ⟨cc, cm, cr, cg⟩ := c
    go_enter Try.func8, Try.ntmps8
    have hX := Blk.new (w.alloc (.cells #[.int .i64 cc, .int .i64 cm, .int .i64 cr, .int .i64 cg] 23)) [.int .i64 line, .int .i64 ok, .int .i64 oa, .int .i64 ob, .int .i64 oc, .int .u64 a, .int .u64 b, .int .u64 cq, .int .u64 n, .int .u64 t, .int .u64 p, .int .i64 back, .int .i64 ret] 53
    have hB := (Blk.new w [.int .i64 cc, .int .i64 cm, .int .i64 cr, .int .i64 cg] 23).alloc (.cells #[.int .i64 line, .int .i64 ok, .int .i64 oa, .int .i64 ob, .int .i64 oc, .int .u64 a, .int .u64 b, .int .u64 cq, .int .u64 n, .int .u64 t, .int .u64 p, .int .i64 back, .int .i64 ret] 53)
    simp only [World.size_alloc] at hX
    have hFF := ((Fr.refl [] w).alloc (.cells #[.int .i64 cc, .int .i64 cm, .int .i64 cr, .int .i64 cg] 23)).alloc (.cells #[.int .i64 line, .int .i64 ok, .int .i64 oa, .int .i64 ob, .int .i64 oc, .int .u64 a, .int .u64 b, .int .u64 cq, .int .u64 n, .int .u64 t, .int .u64 p, .int .i64 back, .int .i64 ret] 53)
    have kX := hX.cell
    have kB := hB.cell
    have hXl := hX.lt
    go_wp2_with (first | (go_at_call 34; refine (awake13_any _).mono ?_; rintro e w2 ⟨rfl, hF2⟩; (have hB := hB.kept hF2 (by simp)); (have kB := hB.cell); (have hX := hX.kept hF2 (by simp)); (have kX := hX.cell); (have hFF := hFF.trans hF2)) | (go_at_call 28; refine (HBo _ hFF).out.mono ?_; rintro e w5 ⟨⟨h, ab, db, r, rd, cap, ext, rfl, HH, HR, q1, q2, q3, q4, q5, d1, d2, d3, d4, d5, d6⟩, hF2⟩; rw [← hs0.out] at HH HR; (have hXl := hX.lt); (have hX := hX.kept hF2 (by simp)); (have nX : w.heap.size + 1 ∉ [h, db] := by simp; omega); (have nR : r ∉ [h, db] := by simp; omega); (have nRd : rd ∉ [h, db] := by simp; omega); (have nH : h ∉ [r, rd] := by simp; omega); (have nAb : ab ∉ [r, rd] := by simp; omega); (have nDb : db ∉ [r, rd] := by simp; omega); (have sF := hFF.size); (have hSS := fun i (m : i ∈ [h, db]) (l : i < w.heap.size) => (show i ∈ ([] : List Nat) by simp at m; omega)); (have hST := fun i (m : i ∈ [r, rd]) (l : i < w.heap.size) => (show i ∈ ([] : List Nat) by simp at m; omega)); (have kX := hX.cell); (have hFF := hFF.trans hF2); clear d1 d2 d3 d4 d5 d6 q1 q2 q3 q4 q5 sF) | (go_at_call 35; refine (HX HH).mono ?_; rintro e w6 ⟨rfl, HH2, hF2⟩; (have HR := HR.kept hF2 nR nRd); (have hX := hX.kept hF2 nX); (have kX := (hX.alloc (.cells #[.int .i64 line2, .int .i64 ok2, .int .i64 oa2, .int .i64 ob2, .int .i64 oc2, .int .u64 a2, .int .u64 b2, .int .u64 cq2, .int .u64 n2, .int .u64 t2, .int .u64 p2, .int .i64 back2, .int .i64 ret2] 53)).cell); (have hFF := hFF.trans_new hF2 hSS)) | (go_at_call 36; refine (HY (HR.alloc _)).mono ?_; rintro e w7 ⟨rfl, HR2, hF2⟩; (have HH2 := (HH2.alloc _).kept hF2 nH nAb nDb); (have nA : w6.heap.size ∉ [r, rd] := by have := HR.blk.lt; have := HR.ar.dat.lt; simp; omega); (have hA := (Blk.new w6 [.int .i64 line2, .int .i64 ok2, .int .i64 oa2, .int .i64 ob2, .int .i64 oc2, .int .u64 a2, .int .u64 b2, .int .u64 cq2, .int .u64 n2, .int .u64 t2, .int .u64 p2, .int .i64 back2, .int .i64 ret2] 53).kept hF2 nA); (have kA := (hA.alloc (.cells #[.int .i64 line2, .int .i64 ok2, .int .i64 oa2, .int .i64 ob2, .int .i64 oc2, .int .u64 a2, .int .u64 b2, .int .u64 cq2, .int .u64 n2, .int .u64 t2, .int .u64 p2, .int .i64 back2, .int .i64 ret2] 53)).cell); (have hFF := (hFF.alloc _).trans_new hF2 hST)) | (go_at_call 31; refine (HAl (HH2.alloc _) (HR2.alloc _)).out.mono ?_; rintro e w8 ⟨rfl, hF2⟩; (have hFF := (hFF.alloc _).trans hF2)))
    go_ret
    exact ⟨rfl, hFF⟩
  · have HBo := fun W (f : Fr [] w W) => hid (both_no (w := W) c _ l (hv.kept0 f) hbo hl)
    clear hv hbo hl hwf hx HX HY
    obtain ⟨line, ok, oa, ob, oc, a, b, cq, n, t, p, back, ret⟩ := x
    unfold MutV.val
    obtain ⟨cc, cm, cr, cg⟩ := c
    go_enter Try.func8, Try.ntmps8
    have hX := Blk.new (w.alloc (.cells #[.int .i64 cc, .int .i64 cm, .int .i64 cr, .int .i64 cg] 23)) [.int .i64 line, .int .i64 ok, .int .i64 oa, .int .i64 ob, .int .i64 oc, .int .u64 a, .int .u64 b, .int .u64 cq, .int .u64 n, .int .u64 t, .int .u64 p, .int .i64 back, .int .i64 ret] 53
    have hB := (Blk.new w [.int .i64 cc, .int .i64 cm, .int .i64 cr, .int .i64 cg] 23).alloc (.cells #[.int .i64 line, .int .i64 ok, .int .i64 oa, .int .i64 ob, .int .i64 oc, .int .u64 a, .int .u64 b, .int .u64 cq, .int .u64 n, .int .u64 t, .int .u64 p, .int .i64 back, .int .i64 ret] 53)
    simp only [World.size_alloc] at hX
    have hFF := ((Fr.refl [] w).alloc (.cells #[.int .i64 cc, .int .i64 cm, .int .i64 cr, .int .i64 cg] 23)).alloc (.cells #[.int .i64 line, .int .i64 ok, .int .i64 oa, .int .i64 ob, .int .i64 oc, .int .u64 a, .int .u64 b, .int .u64 cq, .int .u64 n, .int .u64 t, .int .u64 p, .int .i64 back, .int .i64 ret] 53)
    have kX := hX.cell
    have kB := hB.cell
    have hXl := hX.lt
    go_wp2_with (first | (go_at_call 34; refine (awake13_any _).mono ?_; rintro e w2 ⟨rfl, hF2⟩; (have hB := hB.kept hF2 (by simp)); (have kB := hB.cell); (have hX := hX.kept hF2 (by simp)); (have kX := hX.cell); (have hFF := hFF.trans hF2)) | (go_at_call 28; refine (HBo _ hFF).out.mono ?_; rintro e w5 ⟨rfl, hF2⟩; (have hB := hB.kept hF2 (by simp)); (have kB := hB.cell); (have hX := hX.kept hF2 (by simp)); (have kX := hX.cell); (have hFF := hFF.trans hF2)) | (go_at_call 35; refine (HN.out _).mono ?_; rintro e w6 ⟨rfl, hF2⟩; (have hFF := hFF.trans hF2)))
    go_ret
    exact ⟨rfl, hFF.alloc _⟩

end Go.Proofs.Ytinafadacgloaaa
