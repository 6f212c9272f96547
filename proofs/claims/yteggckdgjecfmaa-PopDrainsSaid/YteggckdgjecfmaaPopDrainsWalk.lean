/- mudlarklaw13.PopDrains: the walk. -/
import Derived.Test.YteggckdgjecfmaaListAt
import Derived.Test.YteggckdgjecfmaaPopAny
import Derived.Test.YteggckdgjecfmaaAwake13
import Derived.Test.YteggckdgjecfmaaCBox
import Derived.Test.YteggckdgjecfmaaHandMore
import Derived.Test.YteggckdgjecfmaaLaw10
namespace Go.Proofs.Yteggckdgjecfmaa
open Go.RowKit
set_option linter.unusedVariables false
set_option linter.unusedSimpArgs false

/-- The cells that are left when k have been taken. -/
theorem drain_next {i0 : Int} {r : List Int} {L : List Int} {k : Nat} (h : L.drop k = i0 :: r) : L[k]? = some i0 ∧ k < L.length ∧ L.drop (k + 1) = r ∧ L.length = k + 1 + r.length := by
  have h1 : k < L.length := by
    rcases Nat.lt_or_ge k L.length with h2 | h2
    · exact h2
    · rw [List.drop_eq_nil_of_le h2] at h; cases h
  have h2 := List.drop_eq_getElem_cons h1
  rw [h2] at h
  injection h with h3 h4
  refine ⟨by rw [List.getElem?_eq_getElem h1, h3], h1, h4, ?_⟩
  have := congrArg List.length h4
  simp at this
  omega

theorem from_none {w : World} (c : Cfg) (a : Option Addr) (n cap : Nat) (hok : ¬ (c.Right ∧ (n : Int) = c.words)) (hn2 : n ≤ 140737488355328) :
    Calls Try.prog 39 #[c.val, .slice a n cap] w fun e w' => (∃ en : Int, e = .returned (.tuple #[.pointer none, .int .i64 en]) ∧ (en == 0) = false) ∧ Fr [] w w' := by
  by_cases hr : c.right = true
  · have hR := (c.right_iff).1 hr
    refine (from_len hR a n cap (fun e => hok ⟨hR, e⟩) hn2).mono ?_
    rintro e w' ⟨rfl, h⟩
    exact ⟨⟨1, rfl, rfl⟩, h⟩
  · refine (from_bad c (by simpa using hr) _).mono ?_
    rintro e w' ⟨rfl, h⟩
    exact ⟨⟨2, rfl, rfl⟩, h⟩

set_option maxRecDepth 100000 in
set_option maxHeartbeats 8000000 in
theorem popDrains_any (c : Cfg) (v : Value) (l : List Int) (w : World) (hv : RdS w v l.length (u64s l)) (hl : l.length ≤ 35184372088832) (hwf : ∀ y, y ∈ l → 0 ≤ y ∧ y < 18446744073709551616) :
    Calls Try.prog 9 #[c.val, v] w fun e w' => e = .returned (.bool true) ∧ Fr [] w w' := by
  obtain ⟨ua, uc, rfl, hu⟩ := hv.elim
  clear hu
  have HG := hid (fun W => great_any c W)
  obtain ⟨gq, hg⟩ : ∃ g, g = c.great := ⟨_, rfl⟩
  rw [← hg] at HG
  clear hg
  cases gq with
  | true =>
    clear hv hwf
    obtain ⟨cc, cm, cr, cg⟩ := c
    go_enter Try.func9, Try.ntmps9
    have hB := Blk.new w [.int .i64 cc, .int .i64 cm, .int .i64 cr, .int .i64 cg] 45
    have kB := hB.cell
    have hFF := (Fr.refl [] w).alloc (.cells #[.int .i64 cc, .int .i64 cm, .int .i64 cr, .int .i64 cg] 45)
    go_wp2_with (first | (go_at_call 52; refine (awake13_any _).mono ?_; rintro e w2 ⟨rfl, hF2⟩; (replace hB := hB.kept hF2 List.not_mem_nil); (replace kB := hB.cell); (replace hFF := hFF.trans hF2)) | (go_at_call 53; refine (HG.out _).mono ?_; rintro e w2 ⟨rfl, hF2⟩; (replace hB := hB.kept hF2 List.not_mem_nil); (replace kB := hB.cell); (replace hFF := hFF.trans hF2)))
    go_ret
    exact ⟨rfl, hFF⟩
  | false =>
  by_cases h4 : (400 : Int) < (l.length : Int)
  · clear hv hwf
    obtain ⟨cc, cm, cr, cg⟩ := c
    go_enter Try.func9, Try.ntmps9
    have hB := Blk.new w [.int .i64 cc, .int .i64 cm, .int .i64 cr, .int .i64 cg] 45
    have kB := hB.cell
    have hFF := (Fr.refl [] w).alloc (.cells #[.int .i64 cc, .int .i64 cm, .int .i64 cr, .int .i64 cg] 45)
    go_wp2_with (first | (go_at_call 52; refine (awake13_any _).mono ?_; rintro e w2 ⟨rfl, hF2⟩; (replace hB := hB.kept hF2 List.not_mem_nil); (replace kB := hB.cell); (replace hFF := hFF.trans hF2)) | (go_at_call 53; refine (HG.out _).mono ?_; rintro e w2 ⟨rfl, hF2⟩; (replace hB := hB.kept hF2 List.not_mem_nil); (replace kB := hB.cell); (replace hFF := hFF.trans hF2)))
    go_ret
    exact ⟨rfl, hFF⟩
  replace h4 : (l.length : Int) ≤ 400 := by omega
  by_cases hsome : (c.Right ∧ (l.length : Int) = c.words) ∧ popList c l ≠ none
  case neg =>
    have HLi := fun W (f : Fr [] w W) => hid (rlist_none (w := W) c ua uc l (hv.kept0 f) hl hwf (fun hok => by
      by_cases hp : popList c l = none
      · exact hp
      · exact absurd ⟨hok, hp⟩ hsome))
    by_cases hok : c.Right ∧ (l.length : Int) = c.words
    · have HFm := fun W (f : Fr [] w W) => hid (from_ok (w := W) hok.1 _ l (hv.kept0 f) hok.2 hwf)
      clear hv hwf hsome
      obtain ⟨cc, cm, cr, cg⟩ := c
      go_enter Try.func9, Try.ntmps9
      have hB := Blk.new w [.int .i64 cc, .int .i64 cm, .int .i64 cr, .int .i64 cg] 45
      have kB := hB.cell
      have hFF := (Fr.refl [] w).alloc (.cells #[.int .i64 cc, .int .i64 cm, .int .i64 cr, .int .i64 cg] 45)
      go_wp2_with (first | (go_at_call 52; refine (awake13_any _).mono ?_; rintro e w2 ⟨rfl, hF2⟩; (replace hB := hB.kept hF2 List.not_mem_nil); (replace kB := hB.cell); (replace hFF := hFF.trans hF2)) | (go_at_call 53; refine (HG.out _).mono ?_; rintro e w2 ⟨rfl, hF2⟩; (replace hB := hB.kept hF2 List.not_mem_nil); (replace kB := hB.cell); (replace hFF := hFF.trans hF2)) | (go_at_call 59; refine (HLi _ hFF).out.mono ?_; rintro e w2 ⟨⟨ga, gc, rfl⟩, hF2⟩; (replace hB := hB.kept hF2 List.not_mem_nil); (replace kB := hB.cell); (replace hFF := hFF.trans hF2)) | (go_at_call 39; refine (HFm _ hFF).out.mono ?_; rintro e w5 ⟨⟨h, ab, db, rfl, HH, q1, q2, q3⟩, hF2⟩; (replace hB := hB.kept hF2 List.not_mem_nil); (replace kB := hB.cell); (replace hFF := hFF.trans hF2)))
      go_ret
      exact ⟨rfl, hFF⟩
    · have HFm := hid (fun W => from_none (w := W) c ua l.length uc hok (by omega))
      clear hv hwf hsome
      obtain ⟨cc, cm, cr, cg⟩ := c
      go_enter Try.func9, Try.ntmps9
      have hB := Blk.new w [.int .i64 cc, .int .i64 cm, .int .i64 cr, .int .i64 cg] 45
      have kB := hB.cell
      have hFF := (Fr.refl [] w).alloc (.cells #[.int .i64 cc, .int .i64 cm, .int .i64 cr, .int .i64 cg] 45)
      go_wp2_with (first | (go_at_call 52; refine (awake13_any _).mono ?_; rintro e w2 ⟨rfl, hF2⟩; (replace hB := hB.kept hF2 List.not_mem_nil); (replace kB := hB.cell); (replace hFF := hFF.trans hF2)) | (go_at_call 53; refine (HG.out _).mono ?_; rintro e w2 ⟨rfl, hF2⟩; (replace hB := hB.kept hF2 List.not_mem_nil); (replace kB := hB.cell); (replace hFF := hFF.trans hF2)) | (go_at_call 59; refine (HLi _ hFF).out.mono ?_; rintro e w2 ⟨⟨ga, gc, rfl⟩, hF2⟩; (replace hB := hB.kept hF2 List.not_mem_nil); (replace kB := hB.cell); (replace hFF := hFF.trans hF2)) | (go_at_call 39; refine (HFm.out _).mono ?_; rintro e w5 ⟨⟨en, rfl, hen⟩, hF2⟩; (replace hB := hB.kept hF2 List.not_mem_nil); (replace kB := hB.cell); (replace hFF := hFF.trans hF2)))
      go_ret
      exact ⟨rfl, hFF⟩
  obtain ⟨⟨hR, hlen⟩, hps⟩ := hsome
  obtain ⟨L, hp⟩ := Option.ne_none_iff_exists'.1 hps
  clear hps
  have hpos := hR.words_pos
  obtain ⟨lb, lo, rfl, lbl⟩ := hv.base (by omega)
  have hw0 := wAt_in hwf
  have hlen1 : 0 < l.length := by omega
  obtain ⟨m, hm⟩ : ∃ m, m = L.length := ⟨_, rfl⟩
  have HLi := fun W (h : RdS W (.slice (some ⟨lb, lo, none⟩) l.length uc) l.length (u64s l)) => hid (rlist_some (w := W) hR h ⟨rfl, hlen⟩ hwf hp (popList_ne hp) hm.symm)
  have HFm := fun W (h : RdS W (.slice (some ⟨lb, lo, none⟩) l.length uc) l.length (u64s l)) => hid (from_ok (w := W) hR _ l h hlen hwf)
  obtain ⟨s0, hs0⟩ : ∃ s : HS, s = ⟨c, l, Acc.z⟩ := ⟨_, rfl⟩
  have hs1 := hid (show s0.c = c ∧ s0.ws = l by rw [hs0]; exact ⟨rfl, rfl⟩)
  replace hs0 := hid hs0
  have hm1 : 1 ≤ m := by rw [hm]; exact List.length_pos_iff.2 (popList_ne hp)
  have hm9 : m ≤ 4096 := by
    have h9 := (popList_iff (fun k => (hw0 k).1) _).1 hp
    have := nodup_le (n := c.cells.toNat) h9.2.1 (fun x hx => by have := Chain.mem (fun k => (hw0 k).1) _ _ (hw0 0).1 h9.1 x hx; omega)
    have := hR.c1
    omega
  have hmI : (1 : Int) ≤ (m : Int) ∧ (m : Int) ≤ 4096 := by omega
  obtain ⟨hmi1, hmi2⟩ := hmI
  have hRh := hid hR
  replace hm := hid hm
  replace hp := hid hp
  replace hw0 := hid hw0
  replace hlen1 := hid hlen1
  replace hwf := hid hwf
  clear hl hpos hlen hR
  obtain ⟨nn, hnn⟩ : ∃ z, z = l.length := ⟨_, rfl⟩
  rw [← hnn] at hv HLi HFm h4 ⊢
  replace hnn := hid hnn
  obtain ⟨cc, cm, cr, cg⟩ := c
  go_enter Try.func9, Try.ntmps9
  have hB := Blk.new w [.int .i64 cc, .int .i64 cm, .int .i64 cr, .int .i64 cg] 45
  have kB := hB.cell
  have hFF := (Fr.refl [] w).alloc (.cells #[.int .i64 cc, .int .i64 cm, .int .i64 cr, .int .i64 cg] 45)
  go_wp2_with (first | (go_at_call 52; refine (awake13_any _).mono ?_; rintro e w2 ⟨rfl, hF2⟩; (replace hB := hB.kept hF2 List.not_mem_nil); (replace kB := hB.cell); (replace hFF := hFF.trans hF2)) | (go_at_call 53; refine (HG.out _).mono ?_; rintro e w2 ⟨rfl, hF2⟩; (replace hB := hB.kept hF2 List.not_mem_nil); (replace kB := hB.cell); (replace hFF := hFF.trans hF2)) | (go_at_call 59; refine (HLi _ (hv.kept0 hFF)).out.mono ?_; rintro e w4 ⟨⟨ub, uo, ucap, rfl, hU⟩, hF2⟩; (have hUl := hU.ltb (by omega)); (have hL := hv.kept0 (hFF.trans hF2)); (replace hB := hB.kept hF2 List.not_mem_nil); (replace kB := hB.cell); (replace hFF := hFF.trans hF2)) | (go_at_call 39; refine (HFm _ hL).out.mono ?_; rintro e w5 ⟨⟨h, ab, db, rfl, HH, q1, q2, q3⟩, hF2⟩; (replace HH := HH.to hs0.out.symm); (have sF := hFF.size); (have lBB := hB.lt); (replace hU := hU.kept0 hF2); (replace hFF := hFF.trans hF2); clear hL))
  have l1 := HH.blk.lt
  have l2' := HH.ar.hdr.lt
  have l3 := HH.ar.dat.lt
  have hSS := fun i (m : i ∈ [h, db]) (l : i < w.heap.size) => (show i ∈ ([] : List Nat) by simp at m; omega)
  have n_hU : ∀ b, Value.ownBlock (.slice (some ⟨ub, uo, none⟩) m ucap) = some b → b ∉ [h, db] := by intro b hb; cases hb; simp; omega
  clear kB hv hB HLi HFm sF l1 l2' l3
  go_loopw [9] (fun i wr => ∃ (n k : Nat) (lw : List Int) (i0 : Int) (r : List Int) (s : HS), n ≤ m + 2 ∧ i = .int .i64 n ∧ s.c = ⟨cc, cm, cr, cg⟩ ∧ s.ws = lw ∧ (∀ x, x ∈ lw → 0 ≤ x ∧ x < 18446744073709551616) ∧ 0 < lw.length ∧ popList ⟨cc, cm, cr, cg⟩ lw = some (i0 :: r) ∧ L.drop k = i0 :: r ∧ (n < m - 1 → k = n) ∧ (m - 1 ≤ n → k = m - 1) ∧ HAt wr h ab db s ∧ RdS wr (.slice (some ⟨ub, uo, none⟩) m ucap) m (i64s L) ∧ Fr [] w wr) (fun i _ => m + 2 - (intOf i).toNat)
  case atStart =>
    obtain ⟨i0, r, hL⟩ := List.exists_cons_of_ne_nil (popList_ne hp.out)
    exact ⟨0, 0, l, i0, r, s0, by omega, rfl, hs1.out.1, hs1.out.2, hwf.out, hlen1.out, by rw [hp.out, hL], by simpa using hL, fun _ => rfl, fun h => by omega, HH, hU, hFF⟩
  case round =>
    clear HH hU hFF
    obtain ⟨n, k, lw, i0, r, s, hn, rfl, hsc, hsw, hlwf, hlw0, hp1, hdr, hk1, hk2, HH, hU, hFF⟩ := hrel
    by_cases hlt : n < m + 2
    case neg =>
      obtain rfl : n = m + 2 := by omega
      clear hdr hk1 hk2 hp1
      have hcast : (((m + 2 : Nat)) : Int) = (m : Int) + 2 := by omega
      go_wp2
      go_ret
      exact ⟨rfl, hFF⟩
    have hltI : (n : Int) < (m : Int) + 2 := by omega
    have hlw := wAt_in hlwf
    obtain ⟨huc, hu2, hcn, htail⟩ := popList_head hRh.out (fun k => (hlw k).1) hlw0 hp1
    obtain ⟨hki, hkl, hkt, hkr⟩ := drain_next hdr
    rw [← hm.out] at hkl hkr
    have HIN := hid (fun (W : World) (b o cap : Nat) (h : RdS W (.slice (some ⟨b, o, none⟩) m cap) m (i64s L)) => RdS.ati h k (by rw [← hm.out]; exact hkl) i0 hki)
    obtain ⟨u, hu⟩ : ∃ u, u = wAt lw 0 := ⟨_, rfl⟩
    obtain ⟨nx, hnx⟩ : ∃ n, n = wAt lw (Cfg.cellP ⟨cc, cm, cr, cg⟩ 1 i0) := ⟨_, rfl⟩
    have hub : 0 ≤ u ∧ u < 18446744073709551616 := by rw [hu]; exact hlw _
    have hnb : 0 ≤ nx ∧ nx < 18446744073709551616 := by rw [hnx]; exact hlw _
    rw [← hu] at huc hu2 hcn
    rw [← hnx] at htail
    have hn2 : wAt lw (Cfg.cellP ⟨cc, cm, cr, cg⟩ 1 (u / 2)) = nx := by rw [hu2, hnx]
    have HSt := hid (fun (k f : Nat) (s : HS) (x : MutV) (h : PtAt ⟨cc, cm, cr, cg⟩ lw u nx k f s x) (hx : 34 ≤ x.line ∧ x.line ≤ 36) => h.step hlw0 hu.symm huc hn2 hx)
    have HWf := hid (fun (k f : Nat) (s : HS) (x : MutV) (h : PtAt ⟨cc, cm, cr, cg⟩ lw u nx k f s x) => h.wf hub hnb)
    have HEn := hid (fun (k f : Nat) (s : HS) (x : MutV) (h : PtAt ⟨cc, cm, cr, cg⟩ lw u nx k f s x) (hx : ¬ (34 ≤ x.line ∧ x.line ≤ 36)) => h.ends hx)
    have HIu := fun W => rIsCell_any u hub.1 hub.2 W
    rw [hcn] at HIu
    replace HIu := hid HIu
    have hst : PtAt ⟨cc, cm, cr, cg⟩ lw u nx 0 0 s ⟨34, 0, 0, 0, 0, 0, 0, 0, 0, 0, 0, 0, 0⟩ := .a rfl rfl hsc hsw rfl
    have hset : ∀ x, x ∈ lw.set 0 nx → 0 ≤ x ∧ x < 18446744073709551616 := fun x hx => by
      rcases List.mem_or_eq_of_mem_set hx with h | h
      · exact hlwf x h
      · rw [h]; exact hnb
    replace hset := hid hset
    replace hlwf := hid hlwf
    replace hlw0 := hid hlw0
    replace hp1 := hid hp1
    replace hdr := hid hdr
    replace hkt := hid hkt
    replace htail := hid htail
    replace hst := hid hst
    replace hkr := hid hkr
    clear hlw hub hnb hu hu2 huc hcn hn2 hnx hsc hsw hki
    go_wp2_with fail
    obtain ⟨W0, rfl⟩ := HH.world
    have l1 := HH.blk.lt
    have l2' := HH.ar.hdr.lt
    have l3 := HH.ar.dat.lt
    have lU := hU.ltb (by omega)
    have sF := hFF.size
    obtain ⟨X, hXe⟩ : ∃ X : Nat, X = W0.heap.size := ⟨_, rfl⟩
    have hX := Blk.new W0 [.int .i64 34, .int .i64 0, .int .i64 0, .int .i64 0, .int .i64 0, .int .u64 0, .int .u64 0, .int .u64 0, .int .u64 0, .int .u64 0, .int .u64 0, .int .i64 0, .int .i64 0] 54
    replace hFF := hFF.alloc (.cells #[.int .i64 34, .int .i64 0, .int .i64 0, .int .i64 0, .int .i64 0, .int .u64 0, .int .u64 0, .int .u64 0, .int .u64 0, .int .u64 0, .int .u64 0, .int .i64 0, .int .i64 0] 54)
    replace HH := HH.alloc (.cells #[.int .i64 34, .int .i64 0, .int .i64 0, .int .i64 0, .int .i64 0, .int .u64 0, .int .u64 0, .int .u64 0, .int .u64 0, .int .u64 0, .int .u64 0, .int .i64 0, .int .i64 0] 54)
    replace hU := hU.alloc (.cells #[.int .i64 34, .int .i64 0, .int .i64 0, .int .i64 0, .int .i64 0, .int .u64 0, .int .u64 0, .int .u64 0, .int .u64 0, .int .u64 0, .int .u64 0, .int .i64 0, .int .i64 0] 54)
    rw [← hXe] at hX ⊢
    have nh1 : h ≠ X := by omega
    have nh2 : ab ≠ X := by omega
    have nh3 : db ≠ X := by omega
    have nX : X ∉ [h, db] := by simp; omega
    have t0 : w.heap.size ≤ X := by omega
    have d_hU : Value.ownBlock (.slice (some ⟨ub, uo, none⟩) m ucap) ≠ some X := by intro e; have e2 : ub = X := Option.some.inj e; omega
    clear hXe l1 l2' l3 sF lU
    go_loopw [11] (fun i wr => ∃ (k f : Nat) (s : HS) (x : MutV), i = .int .i64 k ∧ PtAt ⟨cc, cm, cr, cg⟩ lw u nx k f s x ∧ HAt wr h ab db s ∧ Blk wr X 54 [.int .i64 x.line, .int .i64 x.ok, .int .i64 x.oa, .int .i64 x.ob, .int .i64 x.oc, .int .u64 x.a, .int .u64 x.b, .int .u64 x.c, .int .u64 x.n, .int .u64 x.t, .int .u64 x.p, .int .i64 x.back, .int .i64 x.ret] ∧ RdS wr (.slice (some ⟨ub, uo, none⟩) m ucap) m (i64s L) ∧ Fr [] w wr) (fun i _ => 3 - (intOf i).toNat)
    case atStart => exact ⟨0, 0, s, _, rfl, hst.out, HH, hX, hU, hFF⟩
    case round =>
      clear HH hX hU hFF hst
      obtain ⟨k1, f, s, x, rfl, hA, HH, hX, hU, hFF⟩ := hrel
      by_cases hln : 34 ≤ x.line ∧ x.line ≤ 36
      · have hk3 := hA.line3 hln
        have hk3' : (k1 : Int) < 3 := by omega
        have wf := HWf.out k1 f s x hA
        obtain ⟨his, hA2⟩ := HSt.out k1 f s x hA hln
        have HX := fun (W : World) (H : HAt W h ab db s) => pop_any H x wf
        obtain ⟨s2, hs2⟩ : ∃ z, z = (popM s x).s := ⟨_, rfl⟩
        obtain ⟨is2, hi2⟩ : ∃ z, z = (popM s x).is := ⟨_, rfl⟩
        obtain ⟨lin, hli⟩ : ∃ z, z = (popM s x).lin := ⟨_, rfl⟩
        obtain ⟨y, hy⟩ : ∃ z, z = (popM s x).x := ⟨_, rfl⟩
        rw [← hs2, ← hy, ← hli, ← hi2] at HX
        rw [← hs2, ← hy, ← hli] at hA2
        replace hA2 := hid hA2
        clear hs2 hy hli hi2 wf hA his
        obtain ⟨line, ok, oa, ob, oc, a, b, c, n, t, p, back, ret⟩ := x
        obtain ⟨line2, ok2, oa2, ob2, oc2, a2, b2, c2, n2, t2, p2, back2, ret2⟩ := y
        simp only [MutV.val] at HX
        simp only at hX hln
        obtain ⟨hln1, hln2⟩ := hln
        replace HX := hid HX
        have kX := hX.cell
        have fX := hX.free
        have d0 := hFF.size
        have lX := hX.lt
        go_wp2_with (first | (go_at_call 55; refine (HX.out _ HH).mono ?_; rintro e w8 ⟨rfl, HH, hF2⟩; (replace hX := hX.kept hF2 nX); (replace kX := hX.cell); (replace fX := hX.free); (replace hU := hU.kept hF2 n_hU); (replace hFF := hFF.trans_new hF2 hSS)))
        replace hX := hX.setM (.int .i64 line2) (.int .i64 ok2) (.int .i64 oa2) (.int .i64 ob2) (.int .i64 oc2) (.int .u64 a2) (.int .u64 b2) (.int .u64 c2) (.int .u64 n2) (.int .u64 t2) (.int .u64 p2) (.int .i64 back2) (.int .i64 ret2)
        go_roundw
        case rel =>
          refine ⟨k1 + 1, _, s2, ⟨line2, ok2, oa2, ob2, oc2, a2, b2, c2, n2, t2, p2, back2, ret2⟩, by go_num, hA2.out, ?_, hX, ?_, ?_⟩
          · repeat (first | with_reducible exact HH | with_reducible refine HAt.other ?_ nh1 nh2 nh3 _)
          · repeat (first | with_reducible exact hU | with_reducible refine RdS.other ?_ d_hU _)
          · repeat (first | with_reducible exact hFF | with_reducible refine Fr.setNew ?_ t0 _)
        case measure => simp [intOf]; omega
      · obtain ⟨_, hE⟩ := HEn.out k1 f s x hA hln
        have hcc := hid hA.cfg
        clear hln hA
        rcases hE with ⟨hzn, rfl, hws, rfl⟩ | ⟨hzn, rfl, hws, rfl⟩
        · have hr : r = [] := by
            rcases htail.out with h | ⟨j, r', _, h, _⟩
            · exact h.1
            · rw [hzn] at h; cases h
          have hkm : m = k + 1 := by have := hkr.out; rw [hr] at this; simpa using this
          have hnm : m - 1 ≤ n := by
            rcases Nat.lt_or_ge n (m - 1) with h | h
            · have := hk1 h; omega
            · exact h
          have hI : (m : Int) - 1 ≤ (n : Int) := by omega
          have hkI2 : (k : Int) < (m : Int) := by omega
          have hwr : IntKind.i64.wrap ((m : Int) - 1) = (k : Int) := by rw [w64 _ (by omega)]; omega
          have hkI6 : (m : Int) - 1 = (k : Int) := by omega
          have hwk : IntKind.i64.wrap (k : Int) = (k : Int) := w64 _ (by omega)
          replace hkm := hid hkm
          clear hk1 hk2
          have kX := hX.cell
          clear hzn htail HSt HWf HEn
          go_wp2_with fail
          replace hX := hX.drew
          replace hU := hU.drew
          replace HH := HH.drew
          replace hFF := hFF.drew
          have kX := hX.cell
          have kU := HIN.out _ _ _ _ hU
          go_region_held3 (fun w' => w'.cell? ⟨X, 0, none⟩ = some (.int .i64 41) ∧ w'.cell? ⟨X, 7, none⟩ = some (.int .u64 u) ∧ w'.cell? ⟨X, 12, none⟩ = some (.int .i64 5) ∧ w'.cell? ⟨ub, uo + k, none⟩ = some (.int .i64 i0)) (go_keep) (first | (go_at_call 57; refine (HIu.out _).mono ?_; rintro e w11 ⟨rfl, rfl⟩))
          go_wp2_with fail
          go_roundw
          case rel => exact ⟨n + 1, k, lw, i0, r, s, by omega, by go_num, hcc.out, hws, hlwf.out, hlw0.out, hp1.out, hdr.out, fun h => by omega, fun _ => by have := hkm.out; omega, HH, hU, hFF⟩
          case measure => simp [intOf]; omega
        · obtain ⟨j, r', hr, hpr⟩ : ∃ j r', r = j :: r' ∧ popList ⟨cc, cm, cr, cg⟩ (lw.set 0 nx) = some (j :: r') := by
            rcases htail.out with h | ⟨j, r', h1, h2, h3, h4⟩
            · rw [h.2] at hzn; exact absurd hzn (by decide)
            · exact ⟨j, r', h1, by rw [← h1]; exact h4⟩
          have hkm : k + 2 ≤ m := by have := hkr.out; rw [hr] at this; simp at this; omega
          have hnm : n < m - 1 := by
            rcases Nat.lt_or_ge n (m - 1) with h | h
            · exact h
            · have := hk2 h; omega
          obtain rfl : k = n := hk1 hnm
          have hI : (k : Int) < (m : Int) - 1 := by omega
          have hkI2 : (k : Int) < (m : Int) := by omega
          clear hk1 hk2
          have hpr2 := hid hpr
          have hr2 := hid hr
          have kX := hX.cell
          clear hzn htail HSt HWf HEn hpr hr
          go_wp2_with fail
          replace hX := hX.drew
          replace hU := hU.drew
          replace HH := HH.drew
          replace hFF := hFF.drew
          have kX := hX.cell
          have kU := HIN.out _ _ _ _ hU
          go_region_held3 (fun w' => w'.cell? ⟨X, 0, none⟩ = some (.int .i64 80) ∧ w'.cell? ⟨X, 7, none⟩ = some (.int .u64 u) ∧ w'.cell? ⟨ub, uo + k, none⟩ = some (.int .i64 i0)) (go_keep) (first | (go_at_call 57; refine (HIu.out _).mono ?_; rintro e w11 ⟨rfl, rfl⟩))
          go_wp2_with fail
          go_roundw
          case rel => exact ⟨k + 1, k + 1, lw.set 0 nx, j, r', s, by omega, by go_num, hcc.out, hws, hset.out, by rw [List.length_set]; exact hlw0.out, hpr2.out, by rw [hkt.out, hr2.out], fun h => rfl, fun h => by omega, HH, hU, hFF⟩
          case measure => simp [intOf]; omega

end Go.Proofs.Yteggckdgjecfmaa
