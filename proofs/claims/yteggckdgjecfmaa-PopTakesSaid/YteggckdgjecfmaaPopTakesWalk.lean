/- mudlarklaw13.PopTakes: the walk. -/
import Derived.Test.YteggckdgjecfmaaListAt
import Derived.Test.YteggckdgjecfmaaPopAny
import Derived.Test.YteggckdgjecfmaaAwake13
import Derived.Test.YteggckdgjecfmaaCBox
import Derived.Test.YteggckdgjecfmaaHandMore
import Derived.Test.YteggckdgjecfmaaLaw10
namespace Go.Proofs.Yteggckdgjecfmaa
open Go.RowKit
set_option linter.unusedVariables false
set_option linter.unusedSimpArgs false

set_option maxRecDepth 100000 in
set_option maxHeartbeats 8000000 in
theorem popTakes_any (c : Cfg) (v : Value) (l : List Int) (w : World) (hv : RdS w v l.length (u64s l)) (hl : l.length ≤ 35184372088832) (hwf : ∀ y, y ∈ l → 0 ≤ y ∧ y < 18446744073709551616) :
    Calls Try.prog 8 #[c.val, v] w fun e w' => e = .returned (.bool true) ∧ Fr [] w w' := by
  obtain ⟨ua, uc, rfl, hu⟩ := hv.elim
  clear hu
  have HG := hid (fun W => great_any c W)
  obtain ⟨gq, hg⟩ : ∃ g, g = c.great := ⟨_, rfl⟩
  rw [← hg] at HG
  clear hg
  cases gq with
  | true =>
    clear hv hwf
    obtain ⟨cc, cm, cr, cg⟩ := c
    go_enter Try.func8, Try.ntmps8
    have hB := Blk.new w [.int .i64 cc, .int .i64 cm, .int .i64 cr, .int .i64 cg] 45
    have kB := hB.cell
    have hFF := (Fr.refl [] w).alloc (.cells #[.int .i64 cc, .int .i64 cm, .int .i64 cr, .int .i64 cg] 45)
    go_wp2_with (first | (go_at_call 52; refine (awake13_any _).mono ?_; rintro e w2 ⟨rfl, hF2⟩; (replace hB := hB.kept hF2 List.not_mem_nil); (replace kB := hB.cell); (replace hFF := hFF.trans hF2)) | (go_at_call 53; refine (HG.out _).mono ?_; rintro e w2 ⟨rfl, hF2⟩; (replace hB := hB.kept hF2 List.not_mem_nil); (replace kB := hB.cell); (replace hFF := hFF.trans hF2)))
    go_ret
    exact ⟨rfl, hFF⟩
  | false =>
  by_cases h4 : (400 : Int) < (l.length : Int)
  · clear hv hwf
    obtain ⟨cc, cm, cr, cg⟩ := c
    go_enter Try.func8, Try.ntmps8
    have hB := Blk.new w [.int .i64 cc, .int .i64 cm, .int .i64 cr, .int .i64 cg] 45
    have kB := hB.cell
    have hFF := (Fr.refl [] w).alloc (.cells #[.int .i64 cc, .int .i64 cm, .int .i64 cr, .int .i64 cg] 45)
    go_wp2_with (first | (go_at_call 52; refine (awake13_any _).mono ?_; rintro e w2 ⟨rfl, hF2⟩; (replace hB := hB.kept hF2 List.not_mem_nil); (replace kB := hB.cell); (replace hFF := hFF.trans hF2)) | (go_at_call 53; refine (HG.out _).mono ?_; rintro e w2 ⟨rfl, hF2⟩; (replace hB := hB.kept hF2 List.not_mem_nil); (replace kB := hB.cell); (replace hFF := hFF.trans hF2)))
    go_ret
    exact ⟨rfl, hFF⟩
  replace h4 : (l.length : Int) ≤ 400 := by omega
  by_cases hsome : (c.Right ∧ (l.length : Int) = c.words) ∧ popList c l ≠ none
  case neg =>
    have HLi := fun W (f : Fr [] w W) => hid (list_none (w := W) c ua uc l (hv.kept0 f) hl hwf (fun hok => by
      by_cases hp : popList c l = none
      · exact hp
      · exact absurd ⟨hok, hp⟩ hsome))
    clear hv hwf hsome
    obtain ⟨cc, cm, cr, cg⟩ := c
    go_enter Try.func8, Try.ntmps8
    have hB := Blk.new w [.int .i64 cc, .int .i64 cm, .int .i64 cr, .int .i64 cg] 45
    have kB := hB.cell
    have hFF := (Fr.refl [] w).alloc (.cells #[.int .i64 cc, .int .i64 cm, .int .i64 cr, .int .i64 cg] 45)
    go_wp2_with (first | (go_at_call 52; refine (awake13_any _).mono ?_; rintro e w2 ⟨rfl, hF2⟩; (replace hB := hB.kept hF2 List.not_mem_nil); (replace kB := hB.cell); (replace hFF := hFF.trans hF2)) | (go_at_call 53; refine (HG.out _).mono ?_; rintro e w2 ⟨rfl, hF2⟩; (replace hB := hB.kept hF2 List.not_mem_nil); (replace kB := hB.cell); (replace hFF := hFF.trans hF2)) | (go_at_call 54; refine (HLi _ hFF).out.mono ?_; rintro e w2 ⟨⟨ga, gc, rfl⟩, hF2⟩; (replace hB := hB.kept hF2 List.not_mem_nil); (replace kB := hB.cell); (replace hFF := hFF.trans hF2)))
    go_ret
    exact ⟨rfl, hFF⟩
  obtain ⟨⟨hR, hlen⟩, hps⟩ := hsome
  obtain ⟨L, hp⟩ := Option.ne_none_iff_exists'.1 hps
  clear hps
  have hpos := hR.words_pos
  obtain ⟨lb, lo, rfl, lbl⟩ := hv.base (by omega)
  obtain ⟨i0, r, rfl⟩ := List.exists_cons_of_ne_nil (popList_ne hp)
  have hw0 := wAt_in hwf
  obtain ⟨huc, hu2, hcn, htail⟩ := popList_head hR (fun k => (hw0 k).1) (by omega) hp
  have hlen1 : 0 < l.length := by omega
  obtain ⟨m, hm⟩ : ∃ m, m = (i0 :: r).length := ⟨_, rfl⟩
  have HLi := fun W (h : RdS W (.slice (some ⟨lb, lo, none⟩) l.length uc) l.length (u64s l)) => hid (list_some (w := W) hR h ⟨rfl, hlen⟩ hwf hp (by simp) hm.symm)
  have HLiN := fun W v (h : RdS W v l.length (u64s l)) => hid (list_some (w := W) (v := v) hR h ⟨rfl, hlen⟩ hwf hp (by simp) hm.symm)
  have HFm := fun W (h : RdS W (.slice (some ⟨lb, lo, none⟩) l.length uc) l.length (u64s l)) => hid (from_ok (w := W) hR _ l h hlen hwf)
  obtain ⟨u, hu⟩ : ∃ u, u = wAt l 0 := ⟨_, rfl⟩
  obtain ⟨n, hn⟩ : ∃ n, n = wAt l (c.cellP 1 i0) := ⟨_, rfl⟩
  have hub : 0 ≤ u ∧ u < 18446744073709551616 := by rw [hu]; exact hw0 _
  have hnb : 0 ≤ n ∧ n < 18446744073709551616 := by rw [hn]; exact hw0 _
  rw [← hu] at huc hu2 hcn
  rw [← hn] at htail
  have hn2 : wAt l (c.cellP 1 (u / 2)) = n := by rw [hu2, hn]
  have HSt := hid (fun (k f : Nat) (s : HS) (x : MutV) (h : PtAt c l u n k f s x) (hx : 34 ≤ x.line ∧ x.line ≤ 36) => h.step hlen1 hu.symm huc hn2 hx)
  have HWf := hid (fun (k f : Nat) (s : HS) (x : MutV) (h : PtAt c l u n k f s x) => h.wf hub hnb)
  have HEn := hid (fun (k f : Nat) (s : HS) (x : MutV) (h : PtAt c l u n k f s x) (hx : ¬ (34 ≤ x.line ∧ x.line ≤ 36)) => h.ends hx)
  have HIu := fun W => rIsCell_any u hub.1 hub.2 W
  have HIn := fun W => rIsCell_any n hnb.1 hnb.2 W
  rw [hcn] at HIu
  obtain ⟨s0, hs0⟩ : ∃ s : HS, s = ⟨c, l, Acc.z⟩ := ⟨_, rfl⟩
  have hst : PtAt c l u n 0 0 s0 ⟨34, 0, 0, 0, 0, 0, 0, 0, 0, 0, 0, 0, 0⟩ := .a rfl rfl (by rw [hs0]) (by rw [hs0]) rfl
  replace hs0 := hid hs0
  have hm1 : 1 ≤ m := by rw [hm]; simp
  have hm9 : m ≤ 4096 := by
    have h9 := (popList_iff (fun k => (hw0 k).1) _).1 hp
    have := nodup_le (n := c.cells.toNat) h9.2.1 (fun x hx => by have := Chain.mem (fun k => (hw0 k).1) _ _ (hw0 0).1 h9.1 x hx; omega)
    have := hR.c1
    omega
  have hmz : ((m : Int) == 0) = false := beq_eq_false_iff_ne.2 (by omega)
  have HIN := hid (fun (W : World) (b o cap : Nat) (h : RdS W (.slice (some ⟨b, o, none⟩) m cap) m (i64s (i0 :: r))) => RdS.ati h 0 (by simp) i0 rfl)
  -- what stands behind, where the list has another cell
  have hset : ∀ x, x ∈ l.set 0 n → 0 ≤ x ∧ x < 18446744073709551616 := fun x hx => by
    rcases List.mem_or_eq_of_mem_set hx with h | h
    · exact hwf x h
    · rw [h]; exact hnb
  have HLi2 := hid (fun W v (h : RdS W v l.length (u64s (l.set 0 n))) (rr : List Int) (m1 : Nat) (h1 : popList c (l.set 0 n) = some rr) (h2 : rr ≠ []) (h3 : rr.length = m1) => list_some (w := W) (v := v) hR h ⟨by simp, by simpa using hlen⟩ hset h1 h2 h3)
  have hback : (l.set 0 n).set 0 u = l := by
    rw [List.set_set]
    apply wAt_ext (by simp)
    intro k _ _
    have := wAt_set (ws := l) (i := 0) (j := k) (x := u) (by omega)
    simp only [Int.toNat_zero] at this
    rw [this]
    split
    · rename_i e; subst e; exact hu
    · rfl
  replace hback := hid hback
  have HL0 := hid (fun (W : World) (h : RdS W (.slice (some ⟨lb, lo, none⟩) l.length uc) l.length (u64s l)) => by have := h.at 0 hlen1; rw [show ((0 : Nat) : Int) = 0 from rfl, ← hu] at this; exact this)
  have hsl : Hid ((l.set 0 n).length = l.length) := hid (by simp)
  have hub9 := hid hub
  obtain ⟨nn, hnn⟩ : ∃ z, z = l.length := ⟨_, rfl⟩
  rw [← hnn] at hv HLi HLiN HFm h4 HLi2 HL0 hsl ⊢
  have hnn0 : 0 < nn := by omega
  have hnn2 : nn ≤ 20000 := by omega
  replace hnn := hid hnn
  replace hm := hid hm
  replace HIu := hid HIu
  replace HIn := hid HIn
  replace HLiN := hid HLiN
  clear hw0 hl hub hnb hu hu2 huc hcn hpos hset hn hn2 hwf hlen hp hlen1
  obtain ⟨cc, cm, cr, cg⟩ := c
  go_enter Try.func8, Try.ntmps8
  have hB := Blk.new w [.int .i64 cc, .int .i64 cm, .int .i64 cr, .int .i64 cg] 45
  have kB := hB.cell
  have hFF := (Fr.refl [] w).alloc (.cells #[.int .i64 cc, .int .i64 cm, .int .i64 cr, .int .i64 cg] 45)
  go_wp2_with (first | (go_at_call 52; refine (awake13_any _).mono ?_; rintro e w2 ⟨rfl, hF2⟩; (replace hB := hB.kept hF2 List.not_mem_nil); (replace kB := hB.cell); (replace hFF := hFF.trans hF2)) | (go_at_call 53; refine (HG.out _).mono ?_; rintro e w2 ⟨rfl, hF2⟩; (replace hB := hB.kept hF2 List.not_mem_nil); (replace kB := hB.cell); (replace hFF := hFF.trans hF2)) | (go_at_call 54; refine (HLi _ (hv.kept0 hFF)).out.mono ?_; rintro e w4 ⟨⟨ub, uo, ucap, rfl, hU, hcapm, hbu⟩, hF2⟩; (have hUl := hU.ltb (by omega)); (have hL := hv.kept0 (hFF.trans hF2)); (replace hB := hB.kept hF2 List.not_mem_nil); (replace kB := hB.cell); (replace hFF := hFF.trans hF2)) | (go_at_call 39; refine (HFm _ hL).out.mono ?_; rintro e w5 ⟨⟨h, ab, db, rfl, HH, q1, q2, q3⟩, hF2⟩; (replace HH := HH.to hs0.out.symm); (have sF := hFF.size); (have lBB := hB.lt); (replace hL := hL.kept0 hF2); (replace hU := hU.kept0 hF2); (replace hB := hB.kept hF2 List.not_mem_nil); (replace kB := hB.cell); (replace hFF := hFF.trans hF2)))
  have hL0 := hL
  have l1 := HH.blk.lt
  have l2' := HH.ar.hdr.lt
  have l3 := HH.ar.dat.lt
  have sF2 := hFF.size
  have hcc : Hid (s0.c = ⟨cc, cm, cr, cg⟩) := hid hst.cfg
  obtain ⟨X, hXe⟩ : ∃ X, X = w5.heap.size := ⟨_, rfl⟩
  have hX := Blk.new w5 [.int .i64 34, .int .i64 0, .int .i64 0, .int .i64 0, .int .i64 0, .int .u64 0, .int .u64 0, .int .u64 0, .int .u64 0, .int .u64 0, .int .u64 0, .int .i64 0, .int .i64 0] 54
  replace hFF := hFF.alloc (.cells #[.int .i64 34, .int .i64 0, .int .i64 0, .int .i64 0, .int .i64 0, .int .u64 0, .int .u64 0, .int .u64 0, .int .u64 0, .int .u64 0, .int .u64 0, .int .i64 0, .int .i64 0] 54)
  replace HH := HH.alloc (.cells #[.int .i64 34, .int .i64 0, .int .i64 0, .int .i64 0, .int .i64 0, .int .u64 0, .int .u64 0, .int .u64 0, .int .u64 0, .int .u64 0, .int .u64 0, .int .i64 0, .int .i64 0] 54)
  replace hB := hB.alloc (.cells #[.int .i64 34, .int .i64 0, .int .i64 0, .int .i64 0, .int .i64 0, .int .u64 0, .int .u64 0, .int .u64 0, .int .u64 0, .int .u64 0, .int .u64 0, .int .i64 0, .int .i64 0] 54)
  replace hL := hL.alloc (.cells #[.int .i64 34, .int .i64 0, .int .i64 0, .int .i64 0, .int .i64 0, .int .u64 0, .int .u64 0, .int .u64 0, .int .u64 0, .int .u64 0, .int .u64 0, .int .i64 0, .int .i64 0] 54)
  replace hU := hU.alloc (.cells #[.int .i64 34, .int .i64 0, .int .i64 0, .int .i64 0, .int .i64 0, .int .u64 0, .int .u64 0, .int .u64 0, .int .u64 0, .int .u64 0, .int .u64 0, .int .i64 0, .int .i64 0] 54)
  rw [← hXe] at hX ⊢
  have nh1 : h ≠ X := by omega
  have nh2 : ab ≠ X := by omega
  have nh3 : db ≠ X := by omega
  have nX : X ∉ [h, db] := by simp; omega
  have nB : w.heap.size ∉ [h, db] := by simp; omega
  have dB : w.heap.size ≠ X := by omega
  have t0 : w.heap.size ≤ X := by omega
  have hSS := fun i (m : i ∈ [h, db]) (l : i < w.heap.size) => (show i ∈ ([] : List Nat) by simp at m; omega)
  have n_hL : ∀ b, Value.ownBlock (.slice (some ⟨lb, lo, none⟩) nn uc) = some b → b ∉ [h, db] := by intro b hb; cases hb; simp; omega
  have n_hU : ∀ b, Value.ownBlock (.slice (some ⟨ub, uo, none⟩) m ucap) = some b → b ∉ [h, db] := by intro b hb; cases hb; simp; omega
  have d_hL : Value.ownBlock (.slice (some ⟨lb, lo, none⟩) nn uc) ≠ some X := by intro e; have e2 : lb = X := Option.some.inj e; omega
  have d_hU : Value.ownBlock (.slice (some ⟨ub, uo, none⟩) m ucap) ≠ some X := by intro e; have e2 : ub = X := Option.some.inj e; omega
  clear hXe l1 l2' l3 sF2 kB hL0 hcc hv
  go_loopw [10, 11] (fun fl i wr => ∃ (k f : Nat) (s : HS) (x : MutV), i = .int .i64 k ∧ fl = .int .i64 f ∧ PtAt ⟨cc, cm, cr, cg⟩ l u n k f s x ∧ HAt wr h ab db s ∧ Blk wr X 54 [.int .i64 x.line, .int .i64 x.ok, .int .i64 x.oa, .int .i64 x.ob, .int .i64 x.oc, .int .u64 x.a, .int .u64 x.b, .int .u64 x.c, .int .u64 x.n, .int .u64 x.t, .int .u64 x.p, .int .i64 x.back, .int .i64 x.ret] ∧ Blk wr w.heap.size 45 [.int .i64 cc, .int .i64 cm, .int .i64 cr, .int .i64 cg] ∧ RdS wr (.slice (some ⟨lb, lo, none⟩) nn uc) nn (u64s l) ∧ RdS wr (.slice (some ⟨ub, uo, none⟩) m ucap) m (i64s (i0 :: r)) ∧ Fr [] w wr) (fun _ i _ => 3 - (intOf i).toNat)
  case atStart => exact ⟨0, 0, s0, _, rfl, rfl, hst, HH, hX, hB, hL, hU, hFF⟩
  case round =>
    clear HH hX hB hL hU hFF hst
    obtain ⟨k, f, s, x, rfl, rfl, hA, HH, hX, hB, hL, hU, hFF⟩ := hrel
    have kB := hB.cell
    by_cases hln : 34 ≤ x.line ∧ x.line ≤ 36
    · have hk3 := hA.line3 hln
      have hfl := hA.le
      have hk3' : (k : Int) < 3 := by omega
      have wf := HWf.out k f s x hA
      obtain ⟨his, hA2⟩ := HSt.out k f s x hA hln
      have HX := fun (W : World) (H : HAt W h ab db s) => pop_any H x wf
      rw [his] at HX
      obtain ⟨s2, hs2⟩ : ∃ z, z = (popM s x).s := ⟨_, rfl⟩
      obtain ⟨lin, hli⟩ : ∃ z, z = (popM s x).lin := ⟨_, rfl⟩
      obtain ⟨y, hy⟩ : ∃ z, z = (popM s x).x := ⟨_, rfl⟩
      rw [← hs2, ← hy, ← hli] at HX hA2
      clear hs2 hy hli wf hA his
      obtain ⟨line, ok, oa, ob, oc, a, b, c, n, t, p, back, ret⟩ := x
      obtain ⟨line2, ok2, oa2, ob2, oc2, a2, b2, c2, n2, t2, p2, back2, ret2⟩ := y
      simp only [MutV.val] at HX
      simp only at hX hln
      obtain ⟨hln1, hln2⟩ := hln
      replace HX := hid HX
      have kX := hX.cell
      have fX := hX.free
      have d0 := hFF.size
      have lX := hX.lt
      cases lin with
    | true =>
      simp only [if_true] at hA2
      replace hA2 := hid hA2
      go_wp2_with (first | (go_at_call 55; refine (HX.out _ HH).mono ?_; rintro e w8 ⟨rfl, HH, hF2⟩; (replace hX := hX.kept hF2 nX); (replace kX := hX.cell); (replace fX := hX.free); (replace hB := hB.kept hF2 nB); (replace kB := hB.cell); (replace hL := hL.kept hF2 n_hL); (replace hU := hU.kept hF2 n_hU); (replace hFF := hFF.trans_new hF2 hSS); (have hX1 := hX.alloc (.cells #[.int .i64 line2, .int .i64 ok2, .int .i64 oa2, .int .i64 ob2, .int .i64 oc2, .int .u64 a2, .int .u64 b2, .int .u64 c2, .int .u64 n2, .int .u64 t2, .int .u64 p2, .int .i64 back2, .int .i64 ret2] 54)); (have kX1 := hX1.cell); (have fX1 := hX1.free); (have lX8 := hX.lt); (have dx1 : ¬ X = w8.heap.size := by omega); (have dx2 : ¬ w8.heap.size = X := by omega)))
      replace hX := (hX.setM (.int .i64 line2) (.int .i64 ok2) (.int .i64 oa2) (.int .i64 ob2) (.int .i64 oc2) (.int .u64 a2) (.int .u64 b2) (.int .u64 c2) (.int .u64 n2) (.int .u64 t2) (.int .u64 p2) (.int .i64 back2) (.int .i64 ret2)).alloc (.cells #[.int .i64 line2, .int .i64 ok2, .int .i64 oa2, .int .i64 ob2, .int .i64 oc2, .int .u64 a2, .int .u64 b2, .int .u64 c2, .int .u64 n2, .int .u64 t2, .int .u64 p2, .int .i64 back2, .int .i64 ret2] 54)
      go_roundw
      case rel =>
        refine ⟨k + 1, _, s2, ⟨line2, ok2, oa2, ob2, oc2, a2, b2, c2, n2, t2, p2, back2, ret2⟩, by go_num, by go_num, hA2.out, ?_, hX, ?_, ?_, ?_, ?_⟩
        · refine HAt.alloc ?_ _
          repeat (first | with_reducible exact HH | with_reducible refine HAt.other ?_ nh1 nh2 nh3 _)
        · refine Blk.alloc ?_ _
          repeat (first | with_reducible exact hB | with_reducible refine Blk.other ?_ dB _)
        · refine RdS.alloc ?_ _
          repeat (first | with_reducible exact hL | with_reducible refine RdS.other ?_ d_hL _)
        · refine RdS.alloc ?_ _
          repeat (first | with_reducible exact hU | with_reducible refine RdS.other ?_ d_hU _)
        · refine Fr.alloc ?_ _
          repeat (first | with_reducible exact hFF | with_reducible refine Fr.setNew ?_ t0 _)
      case measure => simp [intOf]; omega
    | false =>
      simp only [Bool.false_eq_true, if_false] at hA2
      replace hA2 := hid hA2
      go_wp2_with (first | (go_at_call 55; refine (HX.out _ HH).mono ?_; rintro e w8 ⟨rfl, HH, hF2⟩; (replace hX := hX.kept hF2 nX); (replace kX := hX.cell); (replace fX := hX.free); (replace hB := hB.kept hF2 nB); (replace kB := hB.cell); (replace hL := hL.kept hF2 n_hL); (replace hU := hU.kept hF2 n_hU); (replace hFF := hFF.trans_new hF2 hSS); (have hX1 := hX.alloc (.cells #[.int .i64 line2, .int .i64 ok2, .int .i64 oa2, .int .i64 ob2, .int .i64 oc2, .int .u64 a2, .int .u64 b2, .int .u64 c2, .int .u64 n2, .int .u64 t2, .int .u64 p2, .int .i64 back2, .int .i64 ret2] 54)); (have kX1 := hX1.cell); (have fX1 := hX1.free); (have lX8 := hX.lt); (have dx1 : ¬ X = w8.heap.size := by omega); (have dx2 : ¬ w8.heap.size = X := by omega)))
      replace hX := (hX.setM (.int .i64 line2) (.int .i64 ok2) (.int .i64 oa2) (.int .i64 ob2) (.int .i64 oc2) (.int .u64 a2) (.int .u64 b2) (.int .u64 c2) (.int .u64 n2) (.int .u64 t2) (.int .u64 p2) (.int .i64 back2) (.int .i64 ret2)).alloc (.cells #[.int .i64 line2, .int .i64 ok2, .int .i64 oa2, .int .i64 ob2, .int .i64 oc2, .int .u64 a2, .int .u64 b2, .int .u64 c2, .int .u64 n2, .int .u64 t2, .int .u64 p2, .int .i64 back2, .int .i64 ret2] 54)
      go_roundw
      case rel =>
        refine ⟨k + 1, _, s2, ⟨line2, ok2, oa2, ob2, oc2, a2, b2, c2, n2, t2, p2, back2, ret2⟩, by go_num, rfl, hA2.out, ?_, hX, ?_, ?_, ?_, ?_⟩
        · refine HAt.alloc ?_ _
          repeat (first | with_reducible exact HH | with_reducible refine HAt.other ?_ nh1 nh2 nh3 _)
        · refine Blk.alloc ?_ _
          repeat (first | with_reducible exact hB | with_reducible refine Blk.other ?_ dB _)
        · refine RdS.alloc ?_ _
          repeat (first | with_reducible exact hL | with_reducible refine RdS.other ?_ d_hL _)
        · refine RdS.alloc ?_ _
          repeat (first | with_reducible exact hU | with_reducible refine RdS.other ?_ d_hU _)
        · refine Fr.alloc ?_ _
          repeat (first | with_reducible exact hFF | with_reducible refine Fr.setNew ?_ t0 _)
      case measure => simp [intOf]; omega
    · obtain ⟨rfl, hE⟩ := HEn.out k f s x hA hln
      have hcc := hid hA.cfg
      have kH := HH.cellsC hcc.out
      clear hln hA
      rcases hE with ⟨hzn, rfl, hws, rfl⟩ | ⟨hzn, rfl, hws, rfl⟩
      · obtain ⟨hr, h0⟩ : r = [] ∧ n = 0 := by
          rcases htail with h | ⟨j, r', _, h, _⟩
          · exact h
          · rw [hzn] at h; cases h
        subst hr
        have hm2 : m = 1 := hm.out
        subst hm2
        have HAll := hid (fun (W : World) (H : HAt W h ab db s) => HAt.allN (n := nn) H hws hnn.out.symm)
        have kX := hX.cell
        clear hzn h0 htail HSt HWf HEn HLi2 hws
        go_wp2_with (first | (go_at_call 56; refine (HAll.out _ HH).mono ?_; rintro e w9 ⟨⟨g, capn, ext, rfl, hD, q9⟩, hF2⟩; (replace hX := hX.kept hF2 List.not_mem_nil); (replace kX := hX.cell); (replace hB := hB.kept hF2 List.not_mem_nil); (replace kB := hB.cell); (replace HH := HH.kept0 hF2); (replace kH := HH.cellsC hcc.out); (replace hL := hL.kept0 hF2); (replace hU := hU.kept0 hF2); (replace hFF := hFF.trans hF2); (have hN := RdS.ofN hD capn hnn.out.symm)) | (go_at_call 54; refine ((HLiN.out _ _ hN).out).mono ?_; rintro e w10 ⟨⟨ub2, uo2, ucap2, rfl, hV, hcap2, hbv⟩, hF2⟩; (replace hX := hX.kept hF2 List.not_mem_nil); (replace kX := hX.cell); (replace hB := hB.kept hF2 List.not_mem_nil); (replace kB := hB.cell); (replace HH := HH.kept0 hF2); (replace kH := HH.cellsC hcc.out); (replace hL := hL.kept0 hF2); (replace hU := hU.kept0 hF2); (replace hN := hN.kept0 hF2); (replace hFF := hFF.trans hF2)))
        replace hX := hX.drew
        replace hU := hU.drew
        replace hL := hL.drew
        replace hN := hN.drew
        replace hV := hV.drew
        replace HH := HH.drew
        replace hB := hB.drew
        replace hFF := hFF.drew
        have kX := hX.cell
        have kU := HIN.out _ _ _ _ hU
        simp only [Nat.add_zero] at kU
        go_region_held3 (fun w' => w'.cell? ⟨X, 7, none⟩ = some (.int .u64 u) ∧ w'.cell? ⟨ub, uo, none⟩ = some (.int .i64 i0)) (go_keep) (first | (go_at_call 57; refine (HIu.out _).mono ?_; rintro e w11 ⟨rfl, rfl⟩))
        go_wp2_with (first | (go_at_call 32; refine (same_n hnn.out.symm hnn2 hN hL).mono ?_; rintro e w12 ⟨rfl, hF2⟩; (replace hX := hX.kept hF2 List.not_mem_nil); (replace kX := hX.cell); (replace hB := hB.kept hF2 List.not_mem_nil); (replace kB := hB.cell); (replace HH := HH.kept0 hF2); (replace kH := HH.cellsC hcc.out); (replace hL := hL.kept0 hF2); (replace hU := hU.kept0 hF2); (replace hN := hN.kept0 hF2); (replace hFF := hFF.trans hF2)))
        go_ret
        exact ⟨rfl, hFF⟩
      · obtain ⟨j, r', rfl, hcj, hpr⟩ : ∃ j r', r = j :: r' ∧ cellN n = j ∧ popList ⟨cc, cm, cr, cg⟩ (l.set 0 n) = some r := by
          rcases htail with h | ⟨j, r', h1, h2, h3, h4⟩
          · rw [h.2] at hzn; exact absurd hzn (by decide)
          · exact ⟨j, r', h1, h3, h4⟩
        obtain ⟨m1, hm1'⟩ : ∃ m1, m1 = (j :: r').length := ⟨_, rfl⟩
        have hm2 : m = m1 + 1 := by rw [hm.out, hm1']; rfl
        have hm1p : 0 < m1 := by rw [hm1']; simp
        have hm1r : (0 : Int) < (m1 : Int) := by omega
        have hm1s : (m1 : Int) + 1 ≤ (ucap : Int) := by omega
        have hm1v : ¬ ucap = 1 := by omega
        have hm1t : (1 : Int) < (m1 : Int) + 1 := by omega
        have hm1u : (1 : Int) ≤ (m1 : Int) + 1 := by omega
        subst hm2
        have hm3 : (((m1 + 1 : Nat) : Int) == 1) = false := beq_eq_false_iff_ne.2 (by rw [hm1']; simp; omega)
        have HAll := hid (fun (W : World) (H : HAt W h ab db s) => HAt.allN (n := nn) H hws hsl.out)
        have HLi3 := hid (fun W v (h : RdS W v nn (u64s (l.set 0 n))) => HLi2.out W v h _ m1 hpr (by simp) hm1'.symm)
        have HIn2 := HIn.out
        rw [hcj] at HIn2
        have HIj := hid (fun (W : World) (b o cap : Nat) (h : RdS W (.slice (some ⟨b, o, none⟩) (m1 + 1) cap) (m1 + 1) (i64s (i0 :: j :: r'))) => RdS.ati h 1 (by simp) j rfl)
        have hmb : m1 ≤ 35184372088832 := by omega
        have HTl := hid (fun (W : World) (b o cap cap2 : Nat) (h : RdS W (.slice (some ⟨b, o, none⟩) (m1 + 1) cap) (m1 + 1) (i64s (i0 :: j :: r'))) => h.tail (cap2 := cap2))
        have HIs := hid (fun (W : World) (u v : Value) (hu : RdS W u m1 (i64s (j :: r'))) (hv : RdS W v m1 (i64s (j :: r'))) => ints_n hm1'.symm hmb hu hv)
        replace HIn2 := hid HIn2
        have kX := hX.cell
        replace hm1' := hid hm1'
        clear hzn htail HSt HWf HEn HLi2 hws hpr hcj
        have lX := hX.lt
        have lH := HH.blk.lt
        have lU := hU.ltb (by omega)
        have lW := hL.ltb hnn0
        have sF9 := hFF.size
        go_wp2_with (first | (go_at_call 56; refine (HAll.out _ HH).mono ?_; rintro e w9 ⟨⟨g, capn, ext, rfl, hD, q9⟩, hF2⟩; (replace hX := hX.kept hF2 List.not_mem_nil); (replace kX := hX.cell); (replace hB := hB.kept hF2 List.not_mem_nil); (replace kB := hB.cell); (replace HH := HH.kept0 hF2); (replace kH := HH.cellsC hcc.out); (replace hL := hL.kept0 hF2); (replace hU := hU.kept0 hF2); (replace hFF := hFF.trans hF2); (have hN := RdS.ofN hD capn hsl.out)) | (go_at_call 54; refine (HLi3.out _ _ hN).mono ?_; rintro e w10 ⟨⟨ub2, uo2, ucap2, rfl, hV, hcap2, hbv⟩, hF2⟩; (replace hX := hX.kept hF2 List.not_mem_nil); (replace kX := hX.cell); (replace hB := hB.kept hF2 List.not_mem_nil); (replace kB := hB.cell); (replace HH := HH.kept0 hF2); (replace kH := HH.cellsC hcc.out); (replace hL := hL.kept0 hF2); (replace hU := hU.kept0 hF2); (replace hN := hN.kept0 hF2); (have lgD := hD.dat.lt); (replace hD := hD.kept hF2 List.not_mem_nil); (replace hFF := hFF.trans hF2)))
        have hX0 := hX
        have hU0 := hU
        have hL0 := hL
        have hV0 := hV
        have hD0 := hD
        have hFF0 := hFF
        replace hX := hX.drew
        replace hU := hU.drew
        replace hL := hL.drew
        replace hN := hN.drew
        replace hV := hV.drew
        replace HH := HH.drew
        replace hB := hB.drew
        replace hFF := hFF.drew
        replace hD := hD.drew
        have kL := HL0.out _ hL
        simp only [Nat.add_zero] at kL
        have fD := hD.dat.free
        have kD := hD.at 0 (by rw [hsl.out]; exact hnn0)
        have gX : ¬ X = g := by omega
        have gU : ¬ ub = g := by omega
        have gW : ¬ lb = g := by omega
        have gW2 : w.heap.size ≤ g := by omega
        have gV : ¬ ub2 = g := by omega
        have kX := hX.cell
        have kU := HIN.out _ _ _ _ hU
        simp only [Nat.add_zero] at kU
        go_region_held3 (fun w' => w'.cell? ⟨X, 7, none⟩ = some (.int .u64 u) ∧ w'.cell? ⟨ub, uo, none⟩ = some (.int .i64 i0) ∧ w'.cell? ⟨lb, lo, none⟩ = some (.int .u64 u) ∧ w'.cell? ⟨g, 0, none⟩ = some (.int .u64 (wAt (l.set 0 n) ((0 : Nat) : Int)))) (go_keep) (first | (go_at_call 57; refine (HIu.out _).mono ?_; rintro e w11 ⟨rfl, rfl⟩))
        go_wp2_with fail
        have hE := hD0.set 0 (by rw [hsl.out]; exact hnn0) u hub9.out
        rw [hback.out] at hE
        have hE2 := (RdS.ofN hE capn hnn.out.symm).drew.drew
        have dU : Value.ownBlock (.slice (some ⟨ub, uo, none⟩) (m1 + 1) ucap) ≠ some g := by intro e; exact gU (Option.some.inj e)
        have dW : Value.ownBlock (.slice (some ⟨lb, lo, none⟩) nn uc) ≠ some g := by intro e; exact gW (Option.some.inj e)
        have dV : Value.ownBlock (.slice (some ⟨ub2, uo2, none⟩) m1 ucap2) ≠ some g := by intro e; exact gV (Option.some.inj e)
        have kX := ((hX0.other (p := ⟨g, 0, none⟩) gX (.int .u64 u)).drew.drew).cell
        have hX3 := (hX0.other (p := ⟨g, 0, none⟩) gX (.int .u64 u)).drew.drew
        have hU3 := (hU0.other (p := ⟨g, 0, none⟩) dU (.int .u64 u)).drew.drew
        have hL3 := (hL0.other (p := ⟨g, 0, none⟩) dW (.int .u64 u)).drew.drew
        have hV3 := (hV0.other (p := ⟨g, 0, none⟩) dV (.int .u64 u)).drew.drew
        have hFF3 := (hFF0.setNew (p := ⟨g, 0, none⟩) gW2 (.int .u64 u)).drew.drew
        have kJ := HIj.out _ _ _ _ hU3
        clear hX hU hL hV hD hN hFF hX0 hU0 hL0 hV0 hD0 hFF0 kU kL kD fD HH hB kH kB
        go_region_held3 (fun w' => w'.cell? ⟨X, 0, none⟩ = some (.int .i64 80) ∧ w'.cell? ⟨X, 11, none⟩ = some (.int .i64 37) ∧ w'.cell? ⟨X, 10, none⟩ = some (.int .u64 n) ∧ w'.cell? ⟨ub, uo + 1, none⟩ = some (.int .i64 j)) (go_keep)
          (first | (go_at_call 57; refine (HIn2.out _).mono ?_; rintro e w11 ⟨rfl, rfl⟩) | (go_at_call 58; refine (HIs.out _ _ _ hV3 (HTl.out _ _ _ _ _ hU3)).mono ?_; rintro e w12 ⟨rfl, hF2⟩; (replace hX3 := hX3.kept hF2 List.not_mem_nil); (replace kX := hX3.cell); (replace hU3 := hU3.kept0 hF2); (replace kJ := HIj.out _ _ _ _ hU3); (replace hL3 := hL3.kept0 hF2); (replace hE2 := hE2.kept0 hF2); (replace hV3 := hV3.kept0 hF2); (replace hFF3 := hFF3.trans hF2)) | (go_at_call 32; refine (same_n hnn.out.symm hnn2 hE2 hL3).mono ?_; rintro e w13 ⟨rfl, hF2⟩; (replace hX3 := hX3.kept hF2 List.not_mem_nil); (replace kX := hX3.cell); (replace hU3 := hU3.kept0 hF2); (replace kJ := HIj.out _ _ _ _ hU3); (replace hL3 := hL3.kept0 hF2); (replace hE2 := hE2.kept0 hF2); (replace hV3 := hV3.kept0 hF2); (replace hFF3 := hFF3.trans hF2)))
        go_wp2
        go_ret
        exact ⟨rfl, hFF3⟩


end Go.Proofs.Yteggckdgjecfmaa
