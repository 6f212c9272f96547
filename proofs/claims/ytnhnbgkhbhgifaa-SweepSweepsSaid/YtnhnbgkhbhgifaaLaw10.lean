/- mudlarklaw10.Both, Alike: two hands on the same words, held against each other. -/
import Derived.Test.YtnhnbgkhbhgifaaPlain
import Derived.Test.YtnhnbgkhbhgifaaRef03
import Derived.Test.YtnhnbgkhbhgifaaRefHand
namespace Go.Proofs.Ytnhnbgkhbhgifaa
open Go.RowKit
set_option linter.unusedVariables false
set_option linter.unusedSimpArgs false


theorem great_any (c : Cfg) (w : World) :
    Calls Try.prog 44 #[c.val] w fun e w' => e = .returned (.bool c.great) ∧ Fr [] w w' := by
  obtain ⟨cc, cm, cr, cg⟩ := c
  simp only [Cfg.great]
  by_cases h1 : 30 < cc
  · have e : (decide (30 < cc) || decide (12 < cm) || decide (8 < cr) || decide (8 < cg)) = true := by simp [h1]
    rw [e]
    clear e
    go_enter Try.func44, Try.ntmps44
    go_wp2
    go_ret
    exact ⟨rfl, (Fr.refl _ _).alloc _⟩
  by_cases h2 : 12 < cm
  · have e : (decide (30 < cc) || decide (12 < cm) || decide (8 < cr) || decide (8 < cg)) = true := by simp [h2]
    rw [e]
    clear e
    go_enter Try.func44, Try.ntmps44
    go_wp2
    go_ret
    exact ⟨rfl, (Fr.refl _ _).alloc _⟩
  by_cases h3 : 8 < cr
  · have e : (decide (30 < cc) || decide (12 < cm) || decide (8 < cr) || decide (8 < cg)) = true := by simp [h3]
    rw [e]
    clear e
    go_enter Try.func44, Try.ntmps44
    go_wp2
    go_ret
    exact ⟨rfl, (Fr.refl _ _).alloc _⟩
  have e : (decide (30 < cc) || decide (12 < cm) || decide (8 < cr) || decide (8 < cg)) = decide (8 < cg) := by simp [h1, h2, h3]
  rw [e]
  clear e
  go_enter Try.func44, Try.ntmps44
  go_wp2
  go_ret
  exact ⟨rfl, (Fr.refl _ _).alloc _⟩

/-- Are there two hands? -/
def bothOk (c : Cfg) (n : Nat) : Prop := c.great = false ∧ c.Right ∧ (n : Int) = c.words

/-- New words in a slice. -/
def NewSlice (w : World) (l : List Int) (e : Ending) (w' : World) : Prop := ∃ g cap ext, e = .returned (.slice (some ⟨g, 0, none⟩) l.length cap) ∧ DAt w' g l ext ∧ w.heap.size ≤ g
theorem rCopy_pos {w : World} {v : Value} {a : List Int} (hv : RdS w v a.length (u64s a)) (ha : a.length ≤ 1000000) (h0 : 0 < a.length) (hwf : ∀ x, x ∈ a → 0 ≤ x ∧ x < 18446744073709551616) :
    Calls Try.prog 15 #[v] w fun e w' => NewSlice w a e w' ∧ Fr [] w w' := by
  refine (rCopy_any hv ha).mono ?_
  rintro e w' ⟨⟨cv, rfl, hl, ⟨rfl, hz⟩ | ⟨g, cap, cur, rfl, hg, hb, hnc, hcm, hcs, ht⟩⟩, hF⟩
  · omega
  · refine ⟨⟨g, cap, cur.toList.drop a.length, rfl, ⟨?_, by omega, hwf⟩, hg⟩, hF⟩
    rw [Nat.mul_one] at ht
    unfold Blk
    rw [← ht, List.take_append_drop]
    exact hb

/-- Two hands on the same words. -/
def TwoHands (w : World) (c : Cfg) (l : List Int) (e : Ending) (w' : World) : Prop :=
  ∃ h ab db r rd cap ext, e = .returned (.tuple #[.pointer (some ⟨h, 0, none⟩), .pointer (some ⟨r, 0, none⟩), .bool true]) ∧ HAt w' h ab db ⟨c, l, Acc.z⟩ ∧ RAt w' r rd cap ext ⟨c, l, Acc.z⟩ ∧
    w.heap.size ≤ h ∧ w.heap.size ≤ ab ∧ w.heap.size ≤ db ∧ w.heap.size ≤ r ∧ w.heap.size ≤ rd ∧ h ≠ r ∧ h ≠ rd ∧ ab ≠ r ∧ ab ≠ rd ∧ db ≠ r ∧ db ≠ rd

theorem both_ok {w : World} {c : Cfg} (hg : c.great = false) (hR : c.Right) (v : Value) (l : List Int) (hv : RdS w v l.length (u64s l)) (hn : (l.length : Int) = c.words) (hwf : ∀ x, x ∈ l → 0 ≤ x ∧ x < 18446744073709551616) :
    Calls Try.prog 32 #[c.val, v] w fun e w' => TwoHands w c l e w' ∧ Fr [] w w' := by
  have hw := hR.words_pos
  have HG := hid (fun W => great_any c W)
  rw [hg] at HG
  have HRt := hid (fun W => rRight_any c W true hR.right)
  have HWd := hid (fun W => rWords_any hR W)
  rw [← hn] at HWd hw
  have HFm := fun W (f : Fr [] w W) => hid (from_ok (w := W) hR v l (hv.kept0 f) hn hwf)
  have HCp := fun W (f : Fr [] w W) => hid (rCopy_pos (w := W) (hv.kept0 f) (by omega) (by omega) hwf)
  obtain ⟨ua, uc, rfl, hu⟩ := hv.elim
  have hne : ((l.length : Int) != (l.length : Int)) = false := by simp
  have HL := hid hn
  have HK := hid hR
  have HWF := hid hwf
  clear hn hwf hu hg hR hv
  obtain ⟨cc, cm, cr, cg⟩ := c
  go_enter Try.func32, Try.ntmps32
  have hB := Blk.new w [.int .i64 cc, .int .i64 cm, .int .i64 cr, .int .i64 cg] 45
  have kB := hB.cell
  have hFF := (Fr.refl [] w).alloc (.cells #[.int .i64 cc, .int .i64 cm, .int .i64 cr, .int .i64 cg] 45)
  go_wp2_with (first | (go_at_call 44; refine (HG.out _).mono ?_; rintro e w2 ⟨rfl, hF2⟩; (have hB := hB.kept hF2 (by simp)); (have kB := hB.cell); (have hFF := hFF.trans hF2)) | (go_at_call 46; refine (HRt.out _).mono ?_; rintro e w2 ⟨rfl, hF2⟩; (have hB := hB.kept hF2 (by simp)); (have kB := hB.cell); (have hFF := hFF.trans hF2)) | (go_at_call 47; refine (HWd.out _).mono ?_; rintro e w2 ⟨rfl, hF2⟩; (have hB := hB.kept hF2 (by simp)); (have kB := hB.cell); (have hFF := hFF.trans hF2)) | (go_at_call 27; refine (HFm _ hFF).out.mono ?_; rintro e w2 ⟨⟨h, ab, db, rfl, HH, q1, q2, q3⟩, hF2⟩; (have q1 := Nat.le_trans hFF.size q1); (have q2 := Nat.le_trans hFF.size q2); (have q3 := Nat.le_trans hFF.size q3); (have l1 := HH.blk.lt); (have l2 := HH.ar.hdr.lt); (have l3 := HH.ar.dat.lt); (have hB := hB.kept hF2 (by simp)); (have kB := hB.cell); (have hFF := hFF.trans hF2)))
  have HH := HH.drew
  have hB := hB.drew
  have hFF0 := hFF
  have hFF := hFF.drew
  go_region_held3 (fun w' => w'.cell? ⟨w.heap.size, 0, none⟩ = some (.int .i64 cc) ∧ w'.cell? ⟨w.heap.size, 1, none⟩ = some (.int .i64 cm) ∧ w'.cell? ⟨w.heap.size, 2, none⟩ = some (.int .i64 cr) ∧ w'.cell? ⟨w.heap.size, 3, none⟩ = some (.int .i64 cg)) (go_keep)
    (first | (go_at_call 15; refine (HCp _ hFF).out.mono ?_; rintro e w4 ⟨⟨rd, cap, ext, rfl, hO, q4⟩, hF2⟩; (have hB := hB.kept hF2 (by simp)); (have kB := hB.cell); (have hFF := hFF.trans hF2); (have HH := HH.kept0 hF2)))
  go_wp2
  go_ret3
  have s4 := hF2.size
  have s0 := hFF0.size
  simp only [World.size_drew] at q4 s4
  have l4 := hO.dat.lt
  exact ⟨⟨h, ab, db, w4.heap.size, rd, cap, ext, rfl, HH.alloc _, ⟨Blk.new _ _ _, hO.alloc _, by omega, HK.out, HL.out⟩, q1, q2, q3, by omega, by omega, by omega, by omega, by omega, by omega, by omega, by omega⟩, hFF.alloc _⟩

/-- No hands: nil, nil, false. -/
theorem both_no {w : World} (c : Cfg) (v : Value) (l : List Int) (hv : RdS w v l.length (u64s l)) (hb : ¬ bothOk c l.length) (hl : l.length ≤ 35184372088832) :
    Calls Try.prog 32 #[c.val, v] w fun e w' => e = .returned (.tuple #[.pointer none, .pointer none, .bool false]) ∧ Fr [] w w' := by
  have HG := fun g (hg : c.great = g) => hid (fun W => by have := great_any c W; rw [hg] at this; exact this)
  obtain ⟨ua, uc, rfl, hu⟩ := hv.elim
  clear hv hu
  unfold bothOk at hb
  by_cases hg : c.great = true
  · have HG := HG true hg
    clear hb hg
    obtain ⟨cc, cm, cr, cg⟩ := c
    go_enter Try.func32, Try.ntmps32
    go_wp2_with (first | (go_at_call 44; refine (HG.out _).mono ?_; rintro e w2 ⟨rfl, hF2⟩))
    go_ret3
    exact ⟨rfl, ((Fr.refl _ _).alloc _).trans hF2⟩
  have hg : c.great = false := by simpa using hg
  have HG := HG false hg
  by_cases hr : c.right = true
  · have hR := (c.right_iff).1 hr
    have HRt := hid (fun W => rRight_any c W true hr)
    have HWd := hid (fun W => rWords_any hR W)
    obtain ⟨z, hz⟩ : ∃ z, z = c.words := ⟨_, rfl⟩
    rw [← hz] at HWd
    have hne : ((l.length : Int) != z) = true := bne_iff_ne.2 (fun e => hb ⟨hg, hR, by rw [e, hz]⟩)
    clear hb hg hr hR hz
    obtain ⟨cc, cm, cr, cg⟩ := c
    have hB := Blk.new w [.int .i64 cc, .int .i64 cm, .int .i64 cr, .int .i64 cg] 45
    have kB := hB.cell
    have hFF := (Fr.refl [] w).alloc (.cells #[.int .i64 cc, .int .i64 cm, .int .i64 cr, .int .i64 cg] 45)
    go_enter Try.func32, Try.ntmps32
    go_wp2_with (first | (go_at_call 44; refine (HG.out _).mono ?_; rintro e w2 ⟨rfl, hF2⟩; (have hB := hB.kept hF2 (by simp)); (have kB := hB.cell); (have hFF := hFF.trans hF2)) | (go_at_call 46; refine (HRt.out _).mono ?_; rintro e w2 ⟨rfl, hF2⟩; (have hB := hB.kept hF2 (by simp)); (have kB := hB.cell); (have hFF := hFF.trans hF2)) | (go_at_call 47; refine (HWd.out _).mono ?_; rintro e w2 ⟨rfl, hF2⟩; (have hB := hB.kept hF2 (by simp)); (have kB := hB.cell); (have hFF := hFF.trans hF2)))
    go_ret3
    exact ⟨rfl, hFF⟩
  · have hr : c.right = false := by simpa using hr
    have HRt := hid (fun W => rRight_any c W false hr)
    clear hb hg hr
    obtain ⟨cc, cm, cr, cg⟩ := c
    have hB := Blk.new w [.int .i64 cc, .int .i64 cm, .int .i64 cr, .int .i64 cg] 45
    have kB := hB.cell
    have hFF := (Fr.refl [] w).alloc (.cells #[.int .i64 cc, .int .i64 cm, .int .i64 cr, .int .i64 cg] 45)
    go_enter Try.func32, Try.ntmps32
    go_wp2_with (first | (go_at_call 44; refine (HG.out _).mono ?_; rintro e w2 ⟨rfl, hF2⟩; (have hB := hB.kept hF2 (by simp)); (have kB := hB.cell); (have hFF := hFF.trans hF2)) | (go_at_call 46; refine (HRt.out _).mono ?_; rintro e w2 ⟨rfl, hF2⟩; (have hB := hB.kept hF2 (by simp)); (have kB := hB.cell); (have hFF := hFF.trans hF2)))
    go_ret3
    exact ⟨rfl, hFF⟩

theorem RAt.rds {w : World} {r rd cap : Nat} {ext : List Value} {s : HS} (R : RAt w r rd cap ext s) : RdS w (.slice (some ⟨rd, 0, none⟩) s.ws.length cap) s.ws.length (u64s s.ws) :=
  .inr ⟨rd, 0, cap, rfl, R.ar.dat.lt, fun j hj => by rw [Nat.zero_add, R.ar.dat.cell, List.getElem?_append_left hj]⟩


end Go.Proofs.Ytnhnbgkhbhgifaa
