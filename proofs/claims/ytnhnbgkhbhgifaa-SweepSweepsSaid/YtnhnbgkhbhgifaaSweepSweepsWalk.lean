/- mudlarklaw18.SweepSweeps: the walk. -/
import Derived.Test.YtnhnbgkhbhgifaaSweepP
import Derived.Test.YtnhnbgkhbhgifaaListAt
import Derived.Test.YtnhnbgkhbhgifaaRdAt
import Derived.Test.YtnhnbgkhbhgifaaSweepAny
import Derived.Test.YtnhnbgkhbhgifaaAwake18
import Derived.Test.YtnhnbgkhbhgifaaCBox
import Derived.Test.YtnhnbgkhbhgifaaHandMore
import Derived.Test.YtnhnbgkhbhgifaaLaw10
import Derived.Test.YtnhnbgkhbhgifaaAtAll
namespace Go.Proofs.Ytnhnbgkhbhgifaa
open Go.RowKit
set_option linter.unusedVariables false
set_option linter.unusedSimpArgs false

theorem HAt.allC {w : World} {h ab db n : Nat} {s : HS} {ws : List Int} (H : HAt w h ab db s) (e : s.ws = ws) (hn : ws.length = n) :
    Calls Try.prog 35 #[.pointer (some ⟨ab, 0, none⟩)] w fun e w' => (∃ g cap ext, e = .returned (.slice (some ⟨g, 0, none⟩) n cap) ∧ DAt w' g ws ext ∧ n ≤ cap) ∧ Fr [] w w' := by
  subst e
  subst hn
  have h0 := H.len
  have h1 := H.right.words_pos
  refine H.all.mono ?_
  rintro e w' ⟨⟨cv, rfl, hl, ⟨rfl, hz⟩ | ⟨g, cap, cur, rfl, hg, hb, hnc, hcm, hcs, ht⟩⟩, hF⟩
  · omega
  · refine ⟨⟨g, cap, cur.toList.drop s.ws.length, rfl, ⟨?_, by omega, H.ar.wf⟩, hnc⟩, hF⟩
    rw [Nat.mul_one] at ht
    unfold Blk
    rw [← ht, List.take_append_drop]
    exact hb
theorem sw_mem {c : Cfg} {l L : List Int} (hlz : ∀ k, 0 ≤ wAt l k) (h : popList c l = some L) : ∀ j, j ∈ L → 0 ≤ j ∧ j < c.cells :=
  fun j hj => Chain.mem hlz L _ (hlz 0) ((popList_iff hlz L).1 h).1 j hj
theorem RdS.newsG {w : World} {b o n cap : Nat} {cs : List Value} (h : RdS w (.slice (some ⟨b, o, none⟩) n cap) n cs) : ∀ j u, cs[j]? = some u → w.cell? ((⟨b, o, none⟩ : Addr).add j) = some u := by
  intro j u hu
  have hj : j < cs.length := by
    rcases Nat.lt_or_ge j cs.length with h | h
    · exact h
    · rw [List.getElem?_eq_none h] at hu; cases hu
  rw [addr_add]
  rcases h with ⟨_, h2, _⟩ | ⟨b2, o2, cap2, e, _, hc⟩
  · rw [h2] at hj; simp at hj
  · cases e
    rw [hc j hj]
    exact hu
theorem RdS.drewN {w : World} {v : Value} {n : Nat} {cs : List Value} (h : RdS w v n cs) (k : Nat) : RdS (w.drewN k) v n cs := h.kept0 ((Fr.refl _ _).drewN k)
theorem i64s_one (l : List Int) : ∀ u ∈ i64s l, u.oneCell' = true := by intro u hu; simp only [i64s, List.mem_map] at hu; obtain ⟨x, _, rfl⟩ := hu; rfl
theorem owns_keptS {w w' : World} {base : Nat} {e : TypeId} {sz : Nat} {v : Value} {n : Nat} {cs : List Value} {S : List Nat} (h : w.ownsRow base e sz v n cs) (f : Fr S w w') (hn : ∀ j, base ≤ j → j ∉ S) : w'.ownsRow base e sz v n cs := by
  obtain ⟨hl, ⟨rfl, rfl⟩ | ⟨g, cap, cur, rfl, hbg, hg, hr⟩⟩ := h
  · exact ⟨hl, .inl ⟨rfl, rfl⟩⟩
  · exact ⟨hl, .inr ⟨g, cap, cur, rfl, hbg, (f.block g (lt_of_block hg) (hn g hbg)).trans hg, hr⟩⟩
theorem owns_set9 {w : World} {X : Nat} {e : TypeId} {sz : Nat} {v : Value} {n : Nat} {cs : List Value} (h : w.ownsRow (X + 1) e sz v n cs) (v0 v1 v2 v3 v4 v5 v6 v7 v8 : Value) : (((((((((w.setCell ⟨X, 0, none⟩ v0).setCell ⟨X, 1, none⟩ v1).setCell ⟨X, 2, none⟩ v2).setCell ⟨X, 3, none⟩ v3).setCell ⟨X, 4, none⟩ v4).setCell ⟨X, 5, none⟩ v5).setCell ⟨X, 6, none⟩ v6).setCell ⟨X, 7, none⟩ v7).setCell ⟨X, 8, none⟩ v8).ownsRow (X + 1) e sz v n cs :=
  (ownsRow_setCell_below (ownsRow_setCell_below (ownsRow_setCell_below (ownsRow_setCell_below (ownsRow_setCell_below (ownsRow_setCell_below (ownsRow_setCell_below (ownsRow_setCell_below (ownsRow_setCell_below h (a := ⟨X, 0, none⟩) (Nat.lt_succ_self X) v0) (a := ⟨X, 1, none⟩) (Nat.lt_succ_self X) v1) (a := ⟨X, 2, none⟩) (Nat.lt_succ_self X) v2) (a := ⟨X, 3, none⟩) (Nat.lt_succ_self X) v3) (a := ⟨X, 4, none⟩) (Nat.lt_succ_self X) v4) (a := ⟨X, 5, none⟩) (Nat.lt_succ_self X) v5) (a := ⟨X, 6, none⟩) (Nat.lt_succ_self X) v6) (a := ⟨X, 7, none⟩) (Nat.lt_succ_self X) v7) (a := ⟨X, 8, none⟩) (Nat.lt_succ_self X) v8)
theorem own_fr {w w' : World} {v : Value} {base N : Nat} (hg : w.grownBy w' v.ownBlock) (ho : ∀ j, v.ownBlock = some j → base ≤ j ∧ j < N) : ∃ S, Fr S w w' ∧ ∀ j, j ∈ S → base ≤ j ∧ j < N := by
  cases h : v.ownBlock with
  | none => exact ⟨[], Fr.of_grown hg [] (fun k e => by rw [h] at e; cases e), by simp⟩
  | some k => exact ⟨[k], Fr.of_grown hg [k] (fun k' e _ => by rw [h] at e; cases e; simp), by intro j hj; simp at hj; subst hj; exact ho _ h⟩
theorem rlist_some2 {w : World} {c : Cfg} (hR : c.Right) {v : Value} {l L : List Int} {nn m : Nat} (hv : RdS w v nn (u64s l)) (hn : l.length = nn ∧ (l.length : Int) = c.words) (hwf : ∀ x, x ∈ l → 0 ≤ x ∧ x < 18446744073709551616) (h : popList c l = some L) (hL : L ≠ []) (hm : L.length = m) :
    Calls Try.prog 33 #[c.val, v] w fun e w' => (∃ ub uo cap, e = .returned (.tuple #[.slice (some ⟨ub, uo, none⟩) m cap, .bool true]) ∧ RdS w' (.slice (some ⟨ub, uo, none⟩) m cap) m (i64s L) ∧ w.heap.size ≤ ub) ∧ Fr [] w w' := by
  obtain ⟨rfl, hn⟩ := hn
  subst hm
  refine (refList_own hR _ l hv hn hwf).mono ?_
  rw [← refList_eq, h]
  rintro e w' ⟨⟨u, rfl, hu, hb⟩, hF⟩
  obtain ⟨b, o, cap, rfl⟩ := hu.basei (List.length_pos_iff.2 hL)
  exact ⟨⟨_, _, _, rfl, hu, hb b rfl⟩, hF⟩
theorem rlist_gen {w : World} (c : Cfg) (a : Option Addr) (cap : Nat) (l : List Int) (hv : RdS w (.slice a l.length cap) l.length (u64s l)) (hl : l.length ≤ 35184372088832) (hwf : ∀ x, x ∈ l → 0 ≤ x ∧ x < 18446744073709551616) :
    Calls Try.prog 33 #[c.val, .slice a l.length cap] w fun e w' => (∃ u b, e = .returned (.tuple #[u, .bool b])) ∧ Fr [] w w' := by
  by_cases hok : c.Right ∧ (l.length : Int) = c.words
  · refine (refList_any hok.1 _ l hv hok.2 hwf).mono ?_
    rintro e w' ⟨⟨u, rfl, _⟩, hF⟩
    exact ⟨⟨_, _, rfl⟩, hF⟩
  · refine (refList_bad c a l.length cap hok hl).mono ?_
    rintro e w' ⟨⟨u, rfl, _⟩, hF⟩
    exact ⟨⟨_, _, rfl⟩, hF⟩
set_option maxRecDepth 100000 in
set_option maxHeartbeats 8000000 in
theorem sweepSweeps_any (c : Cfg) (v : Value) (l : List Int) (hcap : ∀ a n cap, v = .slice a n cap → n ≤ cap) (w : World) (hv : RdS w v l.length (u64s l)) (hl : l.length ≤ 35184372088832) (hwf : ∀ y, y ∈ l → 0 ≤ y ∧ y < 18446744073709551616) :
    Calls Try.prog 6 #[c.val, v] w fun e w' => e = .returned (.bool true) ∧ Fr [] w w' := by
  obtain ⟨ua, uc, rfl, hu⟩ := hv.elim
  have huc := hcap _ _ _ rfl
  clear hcap
  clear hu
  by_cases hbo : bothOk c l.length
  case neg =>
    have HBo := fun W (f : Fr [] w W) => hid (both_no (w := W) c _ l (hv.kept0 f) hbo hl)
    have HLg := fun W (f : Fr [] w W) => hid (rlist_gen (w := W) c _ _ l (hv.kept0 f) hl hwf)
    clear hv hbo hl hwf huc
    obtain ⟨cc, cm, cr, cg⟩ := c
    go_enter Try.func6, Try.ntmps6
    have hB := Blk.new w [.int .i64 cc, .int .i64 cm, .int .i64 cr, .int .i64 cg] 45
    have kB := hB.cell
    have hFF := (Fr.refl [] w).alloc (.cells #[.int .i64 cc, .int .i64 cm, .int .i64 cr, .int .i64 cg] 45)
    go_wp2_with (first | (go_at_call 31; refine (awake18_any _).mono ?_; rintro e w2 ⟨rfl, hF2⟩; (replace hB := hB.kept hF2 List.not_mem_nil); (replace kB := hB.cell); (replace hFF := hFF.trans hF2)) | (go_at_call 32; refine (HBo _ hFF).out.mono ?_; rintro e w5 ⟨rfl, hF2⟩; (replace hB := hB.kept hF2 List.not_mem_nil); (replace kB := hB.cell); (replace hFF := hFF.trans hF2)) | (go_at_call 33; refine (HLg _ hFF).out.mono ?_; rintro e w6 ⟨⟨ul, bl, rfl⟩, hF2⟩; (replace hB := hB.kept hF2 List.not_mem_nil); (replace kB := hB.cell); (replace hFF := hFF.trans hF2)))
    go_ret
    exact ⟨rfl, hFF⟩
  obtain ⟨hgr, hR, hlen⟩ := hbo
  have hpos := hR.words_pos
  have HBo := fun W (f : Fr [] w W) => hid (both_ok (w := W) hgr hR _ l (hv.kept0 f) hlen hwf)
  obtain ⟨lb, lo, rfl, lbl⟩ := hv.base (by omega)
  have hL := hv
  have n_hL : ∀ h db, w.heap.size ≤ h → w.heap.size ≤ db → ∀ b, Value.ownBlock (.slice (some ⟨lb, lo, none⟩) l.length uc) = some b → b ∉ [h, db] := by
    intro h db e1 e2 b hb; cases hb; simp; omega
  have hlz := fun k => (wAt_in hwf k).1
  have HLs := (fun (L : List Int) (h : popList c l = some L) W (hv : RdS W (.slice (some ⟨lb, lo, none⟩) l.length uc) l.length (u64s l)) => rlist_some2 (w := W) hR hv ⟨rfl, hlen⟩ hwf h (popList_ne h) rfl)
  have HLn := (fun (h : popList c l = none) W (hv : RdS W (.slice (some ⟨lb, lo, none⟩) l.length uc) l.length (u64s l)) => rlist_none (w := W) c _ _ l hv hl hwf (fun _ => h))
  have HL2 := (fun (now L : List Int) (hl2 : now.length = l.length) (hw2 : ∀ x, x ∈ now → 0 ≤ x ∧ x < 18446744073709551616) (h : popList c now = some L) W v (hv : RdS W v now.length (u64s now)) => rlist_some (w := W) hR hv ⟨rfl, by rw [hl2]; exact hlen⟩ hw2 h (popList_ne h) rfl)
  have HMem := hid (fun (L : List Int) (h : popList c l = some L) => sw_mem hlz h)
  have HFi := hid (fun (L : List Int) (t0 : Int) (h : popList c l = some L) (h0 : L.getLast? = some t0) (s : HS) (hc : s.c = c) (hw : s.ws = l) => SwAt.first hR hlz h h0 hc hw)
  have HSt := hid (fun (L : List Int) (t0 : Int) (h : popList c l = some L) (h0 : L.getLast? = some t0) (hLc : ∀ j, j ∈ L → wAt l (c.cellP 2 j) ≠ 0) (n : Nat) (W : List Int) (s : HS) (x : ColV) (hA : SwAt c l L t0 n W s x) (hx : 20 ≤ x.line) => hA.step hR hlen hlz (fun j hj => (sw_mem hlz h j hj)) h0 hLc hx)
  have HWf := hid (fun (L : List Int) (t0 : Int) (h : popList c l = some L) (h0 : L.getLast? = some t0) (n : Nat) (W : List Int) (s : HS) (x : ColV) (hA : SwAt c l L t0 n W s x) => hA.wf hR (fun j hj => (sw_mem hlz h j hj)) h0)
  have HEn := hid (fun (L : List Int) (t0 : Int) (n : Nat) (W : List Int) (s : HS) (x : ColV) (hA : SwAt c l L t0 n W s x) (hx : ¬ 20 ≤ x.line) (hs : ∀ k, 0 ≤ wAt s.ws k) => hA.ends hR hlen hlz hx hs)
  have HCol := hid (fun (j : Int) (h0 : 0 ≤ j) (h1 : j < c.cells) => (⟨cellP_eq ⟨h0, h1⟩, cellP_lt hR 2 j (by omega)⟩ : c.cellP 2 j = c.cA + 2 + j * 3 ∧ c.cellP 2 j < c.words))
  have HC3 := hid (fun (j : Int) (h0 : 0 ≤ j) (h1 : j < c.cells) => (⟨cellP_eq ⟨h0, h1⟩, cellP_eq ⟨h0, h1⟩, cellP_eq ⟨h0, h1⟩, cellP_lt hR 2 j (by omega)⟩ : c.cellP 0 j = c.cA + 0 + j * 3 ∧ c.cellP 1 j = c.cA + 1 + j * 3 ∧ c.cellP 2 j = c.cA + 2 + j * 3 ∧ c.cellP 2 j < c.words))
  have hP := hid (Option.eq_none_or_eq_some (popList c l))
  obtain ⟨s0, hs0⟩ : ∃ s : HS, s = ⟨c, l, Acc.z⟩ := ⟨_, rfl⟩
  have hw0 := hid (show s0.ws = l by rw [hs0])
  have hcc := hid (show s0.c = c by rw [hs0])
  replace hs0 := hid hs0
  have hc1 := hR.c0
  have hc2 := hR.c1
  have hcA := cA_bd hR
  have hcw := cA_words c
  obtain ⟨nn, hnn⟩ : ∃ z, z = l.length := ⟨_, rfl⟩
  rw [← hnn] at hL n_hL hlen HBo huc ⊢
  have hnn2 : nn ≤ 20000 := by omega
  have hnw : (nn : Int) - 3 * c.cells = c.cA := by omega
  replace hnn := hid hnn
  obtain ⟨ca, hca⟩ : ∃ z, z = c.cA := ⟨_, rfl⟩
  rw [← hca] at hcA hnw
  replace hca := hid hca
  clear hcw
  replace hlen := hid hlen
  clear hv hl hpos hgr
  rw [← hnn.out] at HLs HLn HL2
  replace HLs := hid HLs
  replace HLn := hid HLn
  replace HL2 := hid HL2
  have hls0 : Hid (l.length = nn) := hid hnn.out.symm
  obtain ⟨cc, cm, cr, cg⟩ := c
  simp only at hc1 hc2 hnw
  go_enter Try.func6, Try.ntmps6
  have hB := Blk.new w [.int .i64 cc, .int .i64 cm, .int .i64 cr, .int .i64 cg] 45
  have kB := hB.cell
  have hFF := (Fr.refl [] w).alloc (.cells #[.int .i64 cc, .int .i64 cm, .int .i64 cr, .int .i64 cg] 45)
  go_wp2_with (first | (go_at_call 31; refine (awake18_any _).mono ?_; rintro e w2 ⟨rfl, hF2⟩; (replace hB := hB.kept hF2 List.not_mem_nil); (replace kB := hB.cell); (replace hFF := hFF.trans hF2)) | (go_at_call 32; refine (HBo _ hFF).out.mono ?_; rintro e w5 ⟨⟨h, ab, db, r, rd, cap, ext, rfl, HH, HR, q1, q2, q3, q4, q5, d1, d2, d3, d4, d5, d6⟩, hF2⟩; (replace HH := HH.to hs0.out.symm); clear HR d1 d2 d3 d4 d5 d6 q4 q5; (replace hL := hL.kept0 (hFF.trans hF2)); (have lBB := hB.lt); (replace hB := hB.kept hF2 List.not_mem_nil); (replace kB := hB.cell); (have nB : w.heap.size ∉ [h, db] := by simp; omega); (have hSS := fun i (m : i ∈ [h, db]) (l : i < w.heap.size) => (show i ∈ ([] : List Nat) by simp at m; omega)); (have sF := hFF.size); (have zz1 := Nat.le_trans sF q1); (have zz2 := Nat.le_trans sF q2); (have zz3 := Nat.le_trans sF q3); (replace hFF := hFF.trans hF2); (have kH := HH.cellsC hcc.out)))
  replace n_hL := n_hL h db zz1 zz3
  rcases hP.out with hPn | ⟨L, hPs⟩
  · go_at_call 33
    refine (HLn.out hPn _ hL).mono ?_
    rintro e w6 ⟨⟨la, lc, rfl⟩, hF2⟩
    replace hFF := hFF.trans hF2
    go_wp2_with fail
    go_ret
    exact ⟨rfl, hFF⟩
  have hLne := popList_ne hPs
  obtain ⟨t0, hlast⟩ : ∃ t0, L.getLast? = some t0 := ⟨L.getLast hLne, List.getLast?_eq_some_getLast hLne⟩
  go_at_call 33
  refine (HLs.out L hPs _ hL).mono ?_
  have lh51 := HH.blk.lt
  have lh53 := HH.ar.dat.lt
  rintro e w6 ⟨⟨ub, uo, ucap, rfl, hU, hub⟩, hF2⟩
  have n_hU : ∀ b, Value.ownBlock (.slice (some ⟨ub, uo, none⟩) L.length ucap) = some b → b ∉ [h, db] := by intro b hb; have e2 : ub = b := Option.some.inj hb; simp; omega
  (replace hB := hB.kept hF2 List.not_mem_nil)
  (replace kB := hB.cell)
  (replace HH := HH.kept0 hF2)
  (replace kH := HH.cellsC hcc.out)
  (replace hL := hL.kept0 hF2)
  (replace hFF := hFF.trans hF2)
  obtain ⟨m, hm⟩ : ∃ m, m = L.length := ⟨_, rfl⟩
  rw [← hm] at hU n_hU ⊢
  have hMm := hid (fun (j : Nat) (hj : j < m) => (⟨L[j]'(by omega), List.getElem?_eq_getElem (by omega), HMem.out L hPs _ (List.getElem_mem _)⟩ : ∃ x, L[j]? = some x ∧ 0 ≤ x ∧ x < (⟨cc, cm, cr, cg⟩ : Cfg).cells))
  have hmc : m ≤ 4096 := by
    rw [hm]
    have := nodup_le (n := cc.toNat) ((popList_iff hlz L).1 hPs).2.1 (fun x hx => by have h9 := HMem.out L hPs x hx; (try simp only at h9); omega)
    omega
  have hm0 : 0 < m := by rw [hm]; exact List.length_pos_iff.2 hLne
  replace hm := hid hm
  go_wp2_with fail
  clear kB kH
  go_loopw [11] (fun i wr => ∃ (j : Nat), j ≤ m ∧ i = .int .i64 j ∧ (∀ q x, q < j → L[q]? = some x → wAt l (Cfg.cellP ⟨cc, cm, cr, cg⟩ 2 x) ≠ 0) ∧ HAt wr h ab db s0 ∧ Blk wr w.heap.size 45 [.int .i64 cc, .int .i64 cm, .int .i64 cr, .int .i64 cg] ∧ RdS wr (.slice (some ⟨lb, lo, none⟩) nn uc) nn (u64s l) ∧ RdS wr (.slice (some ⟨ub, uo, none⟩) m ucap) m (i64s L) ∧ Fr [] w wr) (fun i _ => m - (intOf i).toNat)
  case atStart => exact ⟨0, by omega, rfl, fun q x hq => by omega, HH, hB, hL, hU, hFF⟩
  case round =>
    clear HH hB hL hU hFF
    obtain ⟨j, hj, rfl, hq, HH, hB, hL, hU, hFF⟩ := hrel
    have kB := hB.cell
    by_cases hjm : j < m
    · have hjm2 : (j : Int) < (m : Int) := by omega
      obtain ⟨xi, hx, x0, x1⟩ := hMm.out j hjm
      try simp only at x1
      obtain ⟨x, rfl⟩ : ∃ x : Nat, xi = x := ⟨xi.toNat, by omega⟩
      have dU := hU.ati j (by rw [← hm.out]; exact hjm) x hx
      obtain ⟨ce, cl9⟩ := HCol.out x (by omega) x1
      rw [← hca.out] at ce
      rw [← hlen.out] at cl9
      obtain ⟨z, hz⟩ : ∃ z : Nat, (z : Int) = ca + 3 * (x : Int) + 2 := ⟨(ca + 3 * (x : Int) + 2).toNat, by omega⟩
      have hzl : z < nn := by omega
      have dL := hL.at z (by rw [hls0.out]; exact hzl)
      have hz2 : ca + 3 * (x : Int) + 2 = (z : Int) := hz.symm
      have hzc : Cfg.cellP ⟨cc, cm, cr, cg⟩ 2 x = (z : Int) := by omega
      obtain ⟨y, hy⟩ : ∃ y, y = wAt l z := ⟨_, rfl⟩
      rw [← hy] at dL
      replace hzc := hid hzc
      replace hx := hid hx
      clear ce cl9 hz
      by_cases hy0 : y = 0
      · have b0 : (y == 0) = true := by simp [hy0]
        clear hq hy0 hy
        go_wp2_with fail
        go_ret
        exact ⟨rfl, hFF⟩
      · have b0 : (y == 0) = false := beq_eq_false_iff_ne.2 hy0
        have hq2 := hid (show ∀ q x, q < j + 1 → L[q]? = some x → wAt l (Cfg.cellP ⟨cc, cm, cr, cg⟩ 2 x) ≠ 0 by
          intro q x' hlt hx'
          by_cases e : q = j
          · subst e
            rw [hx.out] at hx'
            cases hx'
            rw [hzc.out, ← hy]; exact hy0
          · exact hq q x' (by omega) hx')
        clear hq hy hy0
        go_wp2_with fail
        go_roundw
        case rel => exact ⟨j + 1, by omega, by go_num, hq2.out, HH, hB, hL, hU, hFF⟩
        case measure => simp [intOf]; omega
    · obtain rfl : m = j := by omega
      have hLc : ∀ x, x ∈ L → wAt l (Cfg.cellP ⟨cc, cm, cr, cg⟩ 2 x) ≠ 0 := by
        intro x hx
        obtain ⟨q, hq1, hq2⟩ := List.getElem_of_mem hx
        exact hq q x (by rw [hm.out]; exact hq1) (by rw [List.getElem?_eq_getElem hq1, hq2])
      replace hLc := hid hLc
      clear hq
      have hmI : (m : Int) - 1 = ((m - 1 : Nat) : Int) := by omega
      have hmw : IntKind.i64.wrap ((m : Int) - 1) = ((m - 1 : Nat) : Int) := by rw [w64 _ (by omega)]; exact hmI
      have hml : m - 1 < m := by omega
      have dT := hU.ati (m - 1) (by rw [← hm.out]; exact hml) t0 (by rw [← hlast, List.getLast?_eq_getElem?, hm.out])
      obtain ⟨m1, hm1⟩ : ∃ z, z = m - 1 := ⟨_, rfl⟩
      rw [← hm1] at hmI hmw hml dT
      have ht0 := HMem.out L hPs t0 (List.mem_of_getLast? hlast)
      try simp only at ht0
      have kB := hB.cell
      have hmx : m ≤ 1000000 := by omega
      clear hm1
      have hLX := hU.alloc (.cells #[.int .i64 20, .int .i64 0, .int .i64 0, .int .i64 0, .int .u64 0, .int .u64 0, .bool false, .int .i64 t0, .int .i64 0] 67)
      have hLX2 := hLX.alloc (.cells #[] 3)
      obtain ⟨i0, hi, hz0, hz1, hz2⟩ := info_parts infoI1
      have hmade : ((wr.alloc (.cells #[.int .i64 20, .int .i64 0, .int .i64 0, .int .i64 0, .int .u64 0, .int .u64 0, .bool false, .int .i64 t0, .int .i64 0] 67)).alloc (.cells #[] 3)).ownsRow (wr.heap.size + 1) 3 1 (.slice (some ⟨wr.heap.size + 1, 0, none⟩) 0 0) 0 [] := by
        have h9 : ((wr.alloc (.cells #[.int .i64 20, .int .i64 0, .int .i64 0, .int .i64 0, .int .u64 0, .int .u64 0, .bool false, .int .i64 t0, .int .i64 0] 67)).alloc (.cells #[] 3)).ownsRow (wr.alloc (.cells #[.int .i64 20, .int .i64 0, .int .i64 0, .int .i64 0, .int .u64 0, .int .u64 0, .bool false, .int .i64 t0, .int .i64 0] 67)).heap.size 3 1 (.slice (some ⟨(wr.alloc (.cells #[.int .i64 20, .int .i64 0, .int .i64 0, .int .i64 0, .int .u64 0, .int .u64 0, .bool false, .int .i64 t0, .int .i64 0] 67)).heap.size, 0, none⟩) 0 0) 0 [] := World.ownsRow_made _ #[] 0 (Nat.le_refl _) (by simp [maxLen]) rfl
        rw [World.size_alloc] at h9
        exact h9
      go_wp2_with (first | (at_builtin; refine wpList_append_own_at _ rfl _ _ 55 rfl (wr.heap.size + 1) 3 i0 (.int .i64 0) 1 8 Try.underlying55 hi hz0 hz1 hz2 rfl (by decide) _ _ _ rfl hmade ⟨ub, uo, none⟩ m ucap (i64s L) rfl ?c2 hLX2.newsG (i64s_one L) ?c3 ?c4 ?c5 ?_))
      case c2 => rw [i64s_length, hm.out, Nat.mul_one]
      case c3 => simp only [maxLen]; omega
      case c4 => omega
      case c5 => simp only [World.size_alloc]; omega
      intro v' w1 hown1 hg1 _ _
      try rw [Nat.zero_add] at hown1
      try rw [List.nil_append] at hown1
      have hF9 : Fr [] (wr.alloc (.cells #[.int .i64 20, .int .i64 0, .int .i64 0, .int .i64 0, .int .u64 0, .int .u64 0, .bool false, .int .i64 t0, .int .i64 0] 67)) w1 := ((Fr.refl [] _).alloc _).grown hg1 (fun j hj hj2 => by simp [Value.ownBlock] at hj; simp only [World.size_alloc] at hj2; omega)
      have lh1 := HH.blk.lt
      have lh2 := HH.ar.hdr.lt
      have lh3 := HH.ar.dat.lt
      have sF := hFF.size
      have hubw := hU.ltb hm0
      have nx1 : h ≠ wr.heap.size := by omega
      have nx2 : ab ≠ wr.heap.size := by omega
      have nx3 : db ≠ wr.heap.size := by omega
      have tX : w.heap.size ≤ wr.heap.size := by omega
      have dBX : w.heap.size ≠ wr.heap.size := by have := hB.lt; omega
      have hX := (Blk.new wr [.int .i64 20, .int .i64 0, .int .i64 0, .int .i64 0, .int .u64 0, .int .u64 0, .bool false, .int .i64 t0, .int .i64 0] 67).kept hF9 List.not_mem_nil
      replace HH := (HH.alloc (.cells #[.int .i64 20, .int .i64 0, .int .i64 0, .int .i64 0, .int .u64 0, .int .u64 0, .bool false, .int .i64 t0, .int .i64 0] 67)).kept0 hF9
      replace hB := (hB.alloc (.cells #[.int .i64 20, .int .i64 0, .int .i64 0, .int .i64 0, .int .u64 0, .int .u64 0, .bool false, .int .i64 t0, .int .i64 0] 67)).kept hF9 List.not_mem_nil
      replace hL := (hL.alloc (.cells #[.int .i64 20, .int .i64 0, .int .i64 0, .int .i64 0, .int .u64 0, .int .u64 0, .bool false, .int .i64 t0, .int .i64 0] 67)).kept0 hF9
      replace hU := (hU.alloc (.cells #[.int .i64 20, .int .i64 0, .int .i64 0, .int .i64 0, .int .u64 0, .int .u64 0, .bool false, .int .i64 t0, .int .i64 0] 67)).kept0 hF9
      replace hFF := (hFF.alloc (.cells #[.int .i64 20, .int .i64 0, .int .i64 0, .int .i64 0, .int .u64 0, .int .u64 0, .bool false, .int .i64 t0, .int .i64 0] 67)).trans hF9
      have hXs := hX.lt
      obtain ⟨X, hXe⟩ : ∃ X, X = wr.heap.size := ⟨_, rfl⟩
      rw [← hXe] at hX hXs nx1 nx2 nx3 tX dBX hown1 ⊢
      have hst := HFi.out L t0 hPs hlast s0 hcc.out hw0.out
      have nX : X ∉ [h, db] := by simp; omega
      have hubX : ub < X := by rw [hXe]; exact hubw
      have d_hU : Value.ownBlock (.slice (some ⟨ub, uo, none⟩) m ucap) ≠ some X := by intro e; have e2 : ub = X := Option.some.inj e; omega
      have hlt3 : Hid (h < X ∧ ab < X ∧ db < X ∧ lb < X) := hid (by have h9 : lb < w.heap.size := lbl; omega)
      have hNS : Hid (∀ j, X + 1 ≤ j → j ∉ [h, db]) := hid (by intro j hj; simp; omega)
      have d_hL : Value.ownBlock (.slice (some ⟨lb, lo, none⟩) nn uc) ≠ some X := by intro e; have e2 : lb = X := Option.some.inj e; have e3 : lb < w.heap.size := lbl; have e4 : w.heap.size ≤ X := tX; rw [e2] at e3; exact absurd e3 (Nat.not_lt.2 e4)
      have hown0 : Hid (w1.ownsRow (X + 1) 3 1 v' L.length (i64s L)) := hid (by rw [← hm.out]; exact hown1)
      clear hown1 hg1 hF9 kB dT hmade hLX hLX2 hXe lh1 lh2 lh3 sF hmI hmw hml hXs
      go_wp2_with fail
      go_loopw [13, 14] (fun vw i wr => ∃ (n : Nat) (W : List Int) (s : HS) (x : ColV), i = .int .i64 n ∧ SwAt ⟨cc, cm, cr, cg⟩ l L t0 n W s x ∧ HAt wr h ab db s ∧ Blk wr X 67 [.int .i64 x.line, .int .i64 x.j, .int .i64 x.c, .int .i64 x.m, .int .u64 x.a, .int .u64 x.p, .bool x.found, .int .i64 x.tail, .int .i64 x.cyc] ∧ Blk wr w.heap.size 45 [.int .i64 cc, .int .i64 cm, .int .i64 cr, .int .i64 cg] ∧ RdS wr (.slice (some ⟨lb, lo, none⟩) nn uc) nn (u64s l) ∧ RdS wr (.slice (some ⟨ub, uo, none⟩) m ucap) m (i64s L) ∧ Hid (wr.ownsRow (X + 1) 3 1 vw W.length (i64s W)) ∧ W.length ≤ m + n ∧ Fr [] w wr) (fun _ i _ => 16385 - (intOf i).toNat)
      case atStart => exact ⟨0, L, s0, ⟨20, 0, 0, 0, 0, 0, false, t0, 0⟩, rfl, hst, HH, hX, hB, hL, hU, hown0, by rw [hm.out]; omega, hFF⟩
      case round =>
        clear HH hX hB hL hFF hst hown0 hU
        obtain ⟨n, W, s, x, rfl, hA, HH, hX, hB, hL, hU, hown, hWl, hFF⟩ := hrel
        have kB := hB.cell
        by_cases hln : 20 ≤ x.line
        case neg =>
          obtain ⟨e1, e2, e3, e4, e5, e6⟩ := HEn.out L t0 n W s x hA (by omega) (fun k => (HH.ar.bd k).1)
          have hcc := hid hA.cfg
          have hWm : W.length ≤ 30000 := by have := hA.len.1; simp only at this; omega
          clear hA hln
          obtain ⟨now, hnow⟩ : ∃ z, z = s.ws := ⟨_, rfl⟩
          rw [← hnow] at e3 e4 e5 e6
          have hls : Hid (now.length = nn) := hid (by rw [e3]; exact hls0.out)
          have HAll := hid (fun (W : World) (H : HAt W h ab db s) => HAt.allC (n := nn) H hnow.symm hls.out)
          replace e4 := hid e4
          replace e5 := hid e5
          replace e6 := hid e6
          clear e3 hnow
          obtain ⟨line, j9, c9, m9, a9, p9, found9, tail9, cyc⟩ := x
          simp only at e1 e2 hX
          subst e1
          subst e2
          have kX := hX.cell
          have kH := HH.cellsC hcc.out
          go_wp2_with (first | (go_at_call 35; refine (HAll.out _ HH).mono ?_; rintro e w9 ⟨⟨g, capn, ext, rfl, hD, q1⟩, hF2⟩; (replace hB := hB.kept hF2 List.not_mem_nil); (replace kB := hB.cell); (replace hX := hX.kept hF2 List.not_mem_nil); (replace kX := hX.cell); (replace hL := hL.kept0 hF2); (replace hU := hU.kept0 hF2); (replace hFF := hFF.trans hF2); (replace hown := hid (owns_kept0 hown.out hF2)); (have hN := RdS.ofN hD capn hls.out); (have hNw := hD.wf); clear hD) | (go_at_call 33; refine (HL2.out now W hls.out hNw e4.out _ _ (by rw [hls.out]; exact hN)).mono ?_; rintro e w10 ⟨⟨ub2, uo2, uc2, rfl, hU2⟩, hF2⟩; (replace hB := hB.kept hF2 List.not_mem_nil); (replace kB := hB.cell); (replace hX := hX.kept hF2 List.not_mem_nil); (replace kX := hX.cell); (replace hL := hL.kept0 hF2); (replace hU := hU.kept0 hF2); (replace hN := hN.kept0 hF2); (replace hFF := hFF.trans hF2); (replace hown := hid (owns_kept0 hown.out hF2))) | (go_at_call 36; refine (ints_n rfl (by omega) hU2 (RdS.of_own hown.out)).mono ?_; rintro e w11 ⟨rfl, hF2⟩; (replace hB := hB.kept hF2 List.not_mem_nil); (replace kB := hB.cell); (replace hX := hX.kept hF2 List.not_mem_nil); (replace kX := hX.cell); (replace hL := hL.kept0 hF2); (replace hU := hU.kept0 hF2); (replace hN := hN.kept0 hF2); (replace hFF := hFF.trans hF2)))
          clear HH hX kX hcc HAll HL2 hU2 hown hWl kB kH
          go_loopw [22] (fun i wr => ∃ (k : Nat), (k : Int) ≤ ca ∧ i = .int .i64 k ∧ Blk wr w.heap.size 45 [.int .i64 cc, .int .i64 cm, .int .i64 cr, .int .i64 cg] ∧ RdS wr (.slice (some ⟨g, 0, none⟩) nn capn) nn (u64s now) ∧ RdS wr (.slice (some ⟨lb, lo, none⟩) nn uc) nn (u64s l) ∧ RdS wr (.slice (some ⟨ub, uo, none⟩) m ucap) m (i64s L) ∧ Fr [] w wr) (fun i _ => ca.toNat - (intOf i).toNat)
          case atStart => exact ⟨0, by omega, rfl, hB, hN, hL, hU, hFF⟩
          case round =>
            clear hB hN hL hU hFF
            obtain ⟨k, hk, rfl, hB, hN, hL, hU, hFF⟩ := hrel
            by_cases hlt : (k : Int) < ca
            · have d1 := hL.at k (by rw [← hnn.out]; omega)
              have d2 := hN.at k (by rw [hls.out]; omega)
              simp only [Nat.zero_add] at d2
              rw [e5.out k (by rw [← hca.out]; exact hlt)] at d2
              obtain ⟨y, hy⟩ : ∃ y, y = wAt l k := ⟨_, rfl⟩
              rw [← hy] at d1 d2
              clear hy
              have hne : (y != y) = false := by simp
              go_wp2
              go_quiet (fail)
              go_wp2
              go_roundw
              case rel => exact ⟨k + 1, by omega, by go_num, hB.drewN _, hN.kept0 ((Fr.refl _ _).drewN _), hL.kept0 ((Fr.refl _ _).drewN _), hU.kept0 ((Fr.refl _ _).drewN _), hFF.drewN _⟩
              case measure => simp [intOf]; omega
            · obtain rfl : ca = (k : Int) := by omega
              clear e5 hk
              go_wp2_with fail
              go_loopw [23] (fun i wr => ∃ (q : Nat), (q : Int) ≤ cc ∧ i = .int .i64 q ∧ Blk wr w.heap.size 45 [.int .i64 cc, .int .i64 cm, .int .i64 cr, .int .i64 cg] ∧ RdS wr (.slice (some ⟨g, 0, none⟩) nn capn) nn (u64s now) ∧ RdS wr (.slice (some ⟨lb, lo, none⟩) nn uc) nn (u64s l) ∧ RdS wr (.slice (some ⟨ub, uo, none⟩) m ucap) m (i64s L) ∧ Fr [] w wr) (fun i _ => cc.toNat - (intOf i).toNat)
              case atStart => exact ⟨0, by omega, rfl, hB, hN, hL, hU, hFF⟩
              case round =>
                clear hB hN hL hU hFF
                obtain ⟨q, hq, rfl, hB, hN, hL, hU, hFF⟩ := hrel
                have kB := hB.cell
                by_cases hlt : (q : Int) < cc
                · obtain ⟨z0, z1, z2, z3⟩ := HC3.out q (by omega) hlt
                  obtain ⟨f2, f0, f1⟩ := e6.out q (by omega) hlt
                  rw [z2, ← hlen.out, ← hca.out] at z3
                  obtain ⟨z, hz⟩ : ∃ z : Nat, z = k + 3 * q := ⟨_, rfl⟩
                  have a0 : (k : Int) + 0 + q * 3 = ((z + 0 : Nat) : Int) := by omega
                  have a1 : (k : Int) + 1 + q * 3 = ((z + 1 : Nat) : Int) := by omega
                  have a2 : (k : Int) + 2 + q * 3 = ((z + 2 : Nat) : Int) := by omega
                  rw [z2, ← hca.out, a2] at f2
                  rw [z0, z2, ← hca.out, a0, a2] at f0
                  rw [z1, z2, ← hca.out, a1, a2] at f1
                  rw [a2] at z3
                  clear z0 z1 z2 a0 a1 a2
                  have zl : z + 3 ≤ nn := by omega
                  clear z3
                  have l0 : wr.cell? ⟨lb, lo + z, none⟩ = some (.int .u64 (wAt l ((z + 0 : Nat) : Int))) := by have h9 := hL.at (z + 0) (by rw [← hnn.out]; omega); rw [show lo + (z + 0) = lo + z by omega] at h9; exact h9
                  have l1 : wr.cell? ⟨lb, lo + z + 1, none⟩ = some (.int .u64 (wAt l ((z + 1 : Nat) : Int))) := by have h9 := hL.at (z + 1) (by rw [← hnn.out]; omega); rw [show lo + (z + 1) = lo + z + 1 by omega] at h9; exact h9
                  have l2 : wr.cell? ⟨lb, lo + z + 2, none⟩ = some (.int .u64 (wAt l ((z + 2 : Nat) : Int))) := by have h9 := hL.at (z + 2) (by rw [← hnn.out]; omega); rw [show lo + (z + 2) = lo + z + 2 by omega] at h9; exact h9
                  have n0 : wr.cell? ⟨g, z, none⟩ = some (.int .u64 (wAt now ((z + 0 : Nat) : Int))) := by have h9 := hN.at (z + 0) (by rw [hls.out]; omega); rw [show 0 + (z + 0) = z by omega] at h9; exact h9
                  have n1 : wr.cell? ⟨g, z + 1, none⟩ = some (.int .u64 (wAt now ((z + 1 : Nat) : Int))) := by have h9 := hN.at (z + 1) (by rw [hls.out]; omega); rw [show 0 + (z + 1) = z + 1 by omega] at h9; exact h9
                  have n2 : wr.cell? ⟨g, z + 2, none⟩ = some (.int .u64 (wAt now ((z + 2 : Nat) : Int))) := by have h9 := hN.at (z + 2) (by rw [hls.out]; omega); rw [show 0 + (z + 2) = z + 2 by omega] at h9; exact h9
                  obtain ⟨x0, hx0⟩ : ∃ x, x = wAt l ((z + 0 : Nat) : Int) := ⟨_, rfl⟩
                  obtain ⟨x1, hx1⟩ : ∃ x, x = wAt l ((z + 1 : Nat) : Int) := ⟨_, rfl⟩
                  obtain ⟨x2, hx2⟩ : ∃ x, x = wAt l ((z + 2 : Nat) : Int) := ⟨_, rfl⟩
                  obtain ⟨y0, hy0⟩ : ∃ x, x = wAt now ((z + 0 : Nat) : Int) := ⟨_, rfl⟩
                  obtain ⟨y1, hy1⟩ : ∃ x, x = wAt now ((z + 1 : Nat) : Int) := ⟨_, rfl⟩
                  obtain ⟨y2, hy2⟩ : ∃ x, x = wAt now ((z + 2 : Nat) : Int) := ⟨_, rfl⟩
                  rw [← hx0] at l0 f0
                  rw [← hx1] at l1 f1
                  rw [← hx2] at l2 f0 f1 f2
                  rw [← hy0] at n0 f0
                  rw [← hy1] at n1 f1
                  rw [← hy2] at n2 f2
                  clear hx0 hx1 hx2 hy0 hy1 hy2
                  have hzq : (k : Int) + 3 * (q : Int) = (z : Int) := by omega
                  have zc1 : ¬ uc = z := by omega
                  have zc2 : ¬ capn = z := by omega
                  have zc3 : z + 3 ≤ uc := by omega
                  have zc4 : z + 3 ≤ capn := by omega
                  have q1e : IntKind.i64.wrap (3 * (q : Int)) = 3 * (q : Int) := w64 _ (by omega)
                  have q2e : IntKind.i64.wrap ((k : Int) + 3 * (q : Int)) = (z : Int) := by rw [hzq, w64 _ (by omega)]
                  have q3e : IntKind.i64.wrap ((z : Int) + 3) = (z : Int) + 3 := w64 _ (by omega)
                  replace f0 := hid f0
                  replace f1 := hid f1
                  replace f2 := hid f2
                  replace hzq := hid hzq
                  replace hz := hid hz
                  have hne : ∀ x : Int, (x != x) = false := fun x => by simp
                  have hmI : (m : Int) - 1 = ((m - 1 : Nat) : Int) := by omega
                  have hmw : IntKind.i64.wrap ((m : Int) - 1) = ((m - 1 : Nat) : Int) := by rw [w64 _ (by omega)]; exact hmI
                  have hml : m - 1 < m := by omega
                  have dT := hU.ati (m - 1) (by rw [← hm.out]; exact hml) t0 (by rw [← hlast, List.getLast?_eq_getElem?, hm.out])
                  obtain ⟨m1, hm1⟩ : ∃ z, z = m - 1 := ⟨_, rfl⟩
                  rw [← hm1] at hmI hmw hml dT
                  clear hm1
                  by_cases x20 : x2 = 0
                  · have f2' := f2.out
                    have f0' := f0.out
                    rw [x20] at f2' f0'
                    simp only [if_true] at f0'
                    rw [if_neg (by omega)] at f2'
                    subst x20
                    subst f2'
                    subst f0'
                    clear f0 f1 f2
                    go_wp2
                    go_quiet (fail)
                    go_wp2
                    go_quiet (fail)
                    go_wp2
                    go_roundw
                    case rel =>
                      refine ⟨q + 1, by omega, by go_num, ?_, ?_, ?_, ?_, ?_⟩
                      · repeat (first | with_reducible exact hB | with_reducible refine Blk.drewN ?_ _)
                      · repeat (first | with_reducible exact hN | with_reducible refine RdS.drewN ?_ _)
                      · repeat (first | with_reducible exact hL | with_reducible refine RdS.drewN ?_ _)
                      · repeat (first | with_reducible exact hU | with_reducible refine RdS.drewN ?_ _)
                      · repeat (first | with_reducible exact hFF | with_reducible refine Fr.drewN ?_ _)
                    case measure => simp [intOf]; omega
                  · have f2' := f2.out
                    have f0' := f0.out
                    rw [if_neg x20] at f0'
                    subst f0'
                    clear f0 f2
                    by_cases x22 : x2 = 2
                    · rw [if_pos x22] at f2'
                      subst f2'
                      subst x22
                      by_cases hqt : (q : Int) = t0
                      · have bq : ((q : Int) != t0) = false := by simp [hqt]
                        clear hqt f1
                        go_wp2
                        go_quiet (fail)
                        go_wp2
                        go_quiet (fail)
                        go_wp2
                        go_quiet (fail)
                        go_wp2
                        go_roundw
                        case rel =>
                          refine ⟨q + 1, by omega, by go_num, ?_, ?_, ?_, ?_, ?_⟩
                          · repeat (first | with_reducible exact hB | with_reducible refine Blk.drewN ?_ _)
                          · repeat (first | with_reducible exact hN | with_reducible refine RdS.drewN ?_ _)
                          · repeat (first | with_reducible exact hL | with_reducible refine RdS.drewN ?_ _)
                          · repeat (first | with_reducible exact hU | with_reducible refine RdS.drewN ?_ _)
                          · repeat (first | with_reducible exact hFF | with_reducible refine Fr.drewN ?_ _)
                        case measure => simp [intOf]; omega
                      · have bq : ((q : Int) != t0) = true := by simp [hqt]
                        obtain rfl : y1 = x1 := f1.out x20 hqt
                        clear hqt f1
                        go_wp2
                        go_quiet (fail)
                        go_wp2
                        go_quiet (fail)
                        go_wp2
                        go_quiet (fail)
                        go_wp2
                        go_roundw
                        case rel =>
                          refine ⟨q + 1, by omega, by go_num, ?_, ?_, ?_, ?_, ?_⟩
                          · repeat (first | with_reducible exact hB | with_reducible refine Blk.drewN ?_ _)
                          · repeat (first | with_reducible exact hN | with_reducible refine RdS.drewN ?_ _)
                          · repeat (first | with_reducible exact hL | with_reducible refine RdS.drewN ?_ _)
                          · repeat (first | with_reducible exact hU | with_reducible refine RdS.drewN ?_ _)
                          · repeat (first | with_reducible exact hFF | with_reducible refine Fr.drewN ?_ _)
                        case measure => simp [intOf]; omega
                    · rw [if_neg x22] at f2'
                      subst f2'
                      have c0 : (y2 == 0) = false := beq_eq_false_iff_ne.2 x20
                      have c2 : (y2 == 2) = false := beq_eq_false_iff_ne.2 x22
                      have c1 : (y2 != 0) = true := by simp [x20]
                      clear x22
                      by_cases hqt : (q : Int) = t0
                      · have bq : ((q : Int) != t0) = false := by simp [hqt]
                        clear hqt f1
                        go_wp2
                        go_quiet (fail)
                        go_wp2
                        go_quiet (fail)
                        go_wp2
                        go_quiet (fail)
                        go_wp2
                        go_roundw
                        case rel =>
                          refine ⟨q + 1, by omega, by go_num, ?_, ?_, ?_, ?_, ?_⟩
                          · repeat (first | with_reducible exact hB | with_reducible refine Blk.drewN ?_ _)
                          · repeat (first | with_reducible exact hN | with_reducible refine RdS.drewN ?_ _)
                          · repeat (first | with_reducible exact hL | with_reducible refine RdS.drewN ?_ _)
                          · repeat (first | with_reducible exact hU | with_reducible refine RdS.drewN ?_ _)
                          · repeat (first | with_reducible exact hFF | with_reducible refine Fr.drewN ?_ _)
                        case measure => simp [intOf]; omega
                      · have bq : ((q : Int) != t0) = true := by simp [hqt]
                        obtain rfl : y1 = x1 := f1.out x20 hqt
                        clear hqt f1
                        go_wp2
                        go_quiet (fail)
                        go_wp2
                        go_quiet (fail)
                        go_wp2
                        go_quiet (fail)
                        go_wp2
                        go_roundw
                        case rel =>
                          refine ⟨q + 1, by omega, by go_num, ?_, ?_, ?_, ?_, ?_⟩
                          · repeat (first | with_reducible exact hB | with_reducible refine Blk.drewN ?_ _)
                          · repeat (first | with_reducible exact hN | with_reducible refine RdS.drewN ?_ _)
                          · repeat (first | with_reducible exact hL | with_reducible refine RdS.drewN ?_ _)
                          · repeat (first | with_reducible exact hU | with_reducible refine RdS.drewN ?_ _)
                          · repeat (first | with_reducible exact hFF | with_reducible refine Fr.drewN ?_ _)
                        case measure => simp [intOf]; omega
                · obtain rfl : cc = (q : Int) := by omega
                  go_wp2_with fail
                  go_ret
                  exact ⟨rfl, hFF⟩
        obtain ⟨wf, nr⟩ := HWf.out L t0 hPs hlast n W s x hA
        obtain ⟨his, hA2⟩ := HSt.out L t0 hPs hlast hLc.out n W s x hA hln
        have hnl := hA.len.2 hln
        try simp only at hnl
        have hcc := hid hA.cfg
        have HX := fun (W : World) (H : HAt W h ab db s) => sw_any H x wf nr
        rw [his] at HX
        obtain ⟨s2, hs2⟩ : ∃ z, z = (swM s x).s := ⟨_, rfl⟩
        obtain ⟨y, hy⟩ : ∃ z, z = (swM s x).x := ⟨_, rfl⟩
        obtain ⟨wh, hwh⟩ : ∃ z, z = (swM s x).what := ⟨_, rfl⟩
        rw [← hs2, ← hy, ← hwh] at HX hA2
        clear hs2 hy hwh wf nr hA his
        obtain ⟨line, j, c, m, a, p, found, tail, cyc⟩ := x
        obtain ⟨line2, j2, c2, m2, a2, p2, found2, tail2, cyc2⟩ := y
        simp only [ColV.val] at HX
        simp only at hln hX hA2
        have bln : decide (20 ≤ line) = true := by simpa using hln
        have hn5 : (n : Int) ≤ 5 * cc := by omega
        clear hln
        replace HX := hid HX
        have kX := hX.cell
        have fX := hX.free
        have d0 := hFF.size
        have lX := hX.lt
        have HO := hid (fun j (e : _ = some j) => hown.out.lt j e)
        by_cases hap : appB wh = true
        · rw [if_pos hap] at hA2
          replace hA2 := hid hA2
          have hw25 : wh = 2 ∨ wh = 5 := by unfold appB at hap; simpa using hap
          clear hap
          rcases hw25 with rfl | rfl
          · go_wp2_with (first | (go_at_call 34; refine (HX.out _ HH).mono ?_; rintro e w8 ⟨rfl, HH, hF2⟩; (replace hX := hX.kept hF2 nX); (replace kX := hX.cell); (replace fX := hX.free); (replace hB := hB.kept hF2 nB); (replace kB := hB.cell); (replace hL := hL.kept hF2 n_hL); (replace hU := hU.kept hF2 n_hU); (replace hFF := hFF.trans_new hF2 hSS); (replace hown := hid (owns_keptS hown.out hF2 hNS.out)); (have kBA := (hB.alloc (.cells #[.int .i64 line2, .int .i64 j2, .int .i64 c2, .int .i64 m2, .int .u64 a2, .int .u64 p2, .bool found2, .int .i64 tail2, .int .i64 cyc2] 67)).cell); (have hX1 := hX.alloc (.cells #[.int .i64 line2, .int .i64 j2, .int .i64 c2, .int .i64 m2, .int .u64 a2, .int .u64 p2, .bool found2, .int .i64 tail2, .int .i64 cyc2] 67)); (have kX1 := hX1.cell); (have fX1 := hX1.free); (have lX8 := hX.lt); (have hY := Blk.new w8 [.int .i64 line2, .int .i64 j2, .int .i64 c2, .int .i64 m2, .int .u64 a2, .int .u64 p2, .bool found2, .int .i64 tail2, .int .i64 cyc2] 67); (have kY := hY.cell); (have dx1 : ¬ X = w8.heap.size := by omega); (have dx2 : ¬ w8.heap.size = X := by omega); (have sF2 := hF2.size)) | (at_builtin; refine wpList_append_own_at _ rfl _ _ 55 rfl (X + 1) 3 i0 (.int .i64 0) 1 8 Try.underlying55 hi hz0 hz1 hz2 rfl (by decide) _ _ _ rfl ((hown.out.alloc (.cells #[.int .i64 line2, .int .i64 j2, .int .i64 c2, .int .i64 m2, .int .u64 a2, .int .u64 p2, .bool found2, .int .i64 tail2, .int .i64 cyc2] 67)).alloc (.cells #[.int .i64 c] 3)) ⟨w8.heap.size + 1, 0, none⟩ 1 1 [.int .i64 c] rfl rfl ?c1 ?c2 ?c3 ?c4 ?c5 ?_))
            case c1 =>
              intro j u hu
              have h9 := news_new (w8.alloc (.cells #[.int .i64 line2, .int .i64 j2, .int .i64 c2, .int .i64 m2, .int .u64 a2, .int .u64 p2, .bool found2, .int .i64 tail2, .int .i64 cyc2] 67)) [.int .i64 c] 3 j u hu
              rw [World.size_alloc] at h9
              exact h9
            case c2 => simp [Value.oneCell']
            case c3 => simp only [maxLen]; omega
            case c4 => omega
            case c5 => simp only [World.size_alloc]; omega
            intro v' w1 hown1 hg1 _ hat
            obtain ⟨S, hFS, hS⟩ := own_fr hg1 (fun j e => HO.out j e)
            obtain ⟨hq1, hq2, hq3, hq4⟩ := hlt3.out
            have hFF3 := ((hFF.alloc (.cells #[.int .i64 line2, .int .i64 j2, .int .i64 c2, .int .i64 m2, .int .u64 a2, .int .u64 p2, .bool found2, .int .i64 tail2, .int .i64 cyc2] 67)).alloc (.cells #[.int .i64 c] 3)).grown hg1 (fun j hj hj2 => by have := HO.out j hj; omega)
            have HH3 := ((HH.alloc (.cells #[.int .i64 line2, .int .i64 j2, .int .i64 c2, .int .i64 m2, .int .u64 a2, .int .u64 p2, .bool found2, .int .i64 tail2, .int .i64 cyc2] 67)).alloc (.cells #[.int .i64 c] 3)).kept hFS (fun q => by have := hS _ q; omega) (fun q => by have := hS _ q; omega) (fun q => by have := hS _ q; omega)
            have hB3 := ((hB.alloc (.cells #[.int .i64 line2, .int .i64 j2, .int .i64 c2, .int .i64 m2, .int .u64 a2, .int .u64 p2, .bool found2, .int .i64 tail2, .int .i64 cyc2] 67)).alloc (.cells #[.int .i64 c] 3)).kept hFS (fun q => by have := hS _ q; omega)
            have hL3 := ((hL.alloc (.cells #[.int .i64 line2, .int .i64 j2, .int .i64 c2, .int .i64 m2, .int .u64 a2, .int .u64 p2, .bool found2, .int .i64 tail2, .int .i64 cyc2] 67)).alloc (.cells #[.int .i64 c] 3)).kept hFS (fun b hb q => by have := hS _ q; have e2 : lb = b := Option.some.inj hb; omega)
            have hU3 := ((hU.alloc (.cells #[.int .i64 line2, .int .i64 j2, .int .i64 c2, .int .i64 m2, .int .u64 a2, .int .u64 p2, .bool found2, .int .i64 tail2, .int .i64 cyc2] 67)).alloc (.cells #[.int .i64 c] 3)).kept hFS (fun b hb q => by have := hS _ q; have e2 : ub = b := Option.some.inj hb; omega)
            have hX3 := ((hX.alloc (.cells #[.int .i64 line2, .int .i64 j2, .int .i64 c2, .int .i64 m2, .int .u64 a2, .int .u64 p2, .bool found2, .int .i64 tail2, .int .i64 cyc2] 67)).alloc (.cells #[.int .i64 c] 3)).kept hFS (fun q => by have := hS _ q; omega)
            have hY3 := (hY.alloc (.cells #[.int .i64 c] 3)).kept hFS (fun q => by have := hS _ q; omega)
            have kX3 := hX3.cell
            have fX3 := hX3.free
            have kY3 := hY3.cell
            have dx3 : ¬ X = w8.heap.size := dx1
            clear hq1 hq2 hq3 hq4 hS hFS hg1 hat HH hB hL hU hX hY hFF kX fX kX1 fX1 kY kB kBA
            go_wp2_with fail
            replace hX3 := hX3.set9 (.int .i64 line2) (.int .i64 j2) (.int .i64 c2) (.int .i64 m2) (.int .u64 a2) (.int .u64 p2) (.bool found2) (.int .i64 tail2) (.int .i64 cyc2)
            go_roundw
            case rel =>
              refine ⟨n + 1, W ++ [c], s2, ⟨line2, j2, c2, m2, a2, p2, found2, tail2, cyc2⟩, by go_num, hA2.out, ?_, hX3, ?_, ?_, ?_, ?_, ?_, ?_⟩
              · repeat (first | with_reducible exact HH3 | with_reducible refine HAt.other ?_ nx1 nx2 nx3 _)
              · repeat (first | with_reducible exact hB3 | with_reducible refine Blk.other ?_ dBX _)
              · repeat (first | with_reducible exact hL3 | with_reducible refine RdS.other ?_ d_hL _)
              · repeat (first | with_reducible exact hU3 | with_reducible refine RdS.other ?_ d_hU _)
              · refine hid ?_
                rw [i64s_append, List.length_append]
                exact owns_set9 hown1 (.int .i64 line2) (.int .i64 j2) (.int .i64 c2) (.int .i64 m2) (.int .u64 a2) (.int .u64 p2) (.bool found2) (.int .i64 tail2) (.int .i64 cyc2)
              · rw [List.length_append]; simp only [List.length_cons, List.length_nil]; omega
              · repeat (first | with_reducible exact hFF3 | with_reducible refine Fr.setNew ?_ tX _)
            case measure => simp [intOf]; omega
          · go_wp2_with (first | (go_at_call 34; refine (HX.out _ HH).mono ?_; rintro e w8 ⟨rfl, HH, hF2⟩; (replace hX := hX.kept hF2 nX); (replace kX := hX.cell); (replace fX := hX.free); (replace hB := hB.kept hF2 nB); (replace kB := hB.cell); (replace hL := hL.kept hF2 n_hL); (replace hU := hU.kept hF2 n_hU); (replace hFF := hFF.trans_new hF2 hSS); (replace hown := hid (owns_keptS hown.out hF2 hNS.out)); (have kBA := (hB.alloc (.cells #[.int .i64 line2, .int .i64 j2, .int .i64 c2, .int .i64 m2, .int .u64 a2, .int .u64 p2, .bool found2, .int .i64 tail2, .int .i64 cyc2] 67)).cell); (have hX1 := hX.alloc (.cells #[.int .i64 line2, .int .i64 j2, .int .i64 c2, .int .i64 m2, .int .u64 a2, .int .u64 p2, .bool found2, .int .i64 tail2, .int .i64 cyc2] 67)); (have kX1 := hX1.cell); (have fX1 := hX1.free); (have lX8 := hX.lt); (have hY := Blk.new w8 [.int .i64 line2, .int .i64 j2, .int .i64 c2, .int .i64 m2, .int .u64 a2, .int .u64 p2, .bool found2, .int .i64 tail2, .int .i64 cyc2] 67); (have kY := hY.cell); (have dx1 : ¬ X = w8.heap.size := by omega); (have dx2 : ¬ w8.heap.size = X := by omega); (have sF2 := hF2.size)) | (at_builtin; refine wpList_append_own_at _ rfl _ _ 55 rfl (X + 1) 3 i0 (.int .i64 0) 1 8 Try.underlying55 hi hz0 hz1 hz2 rfl (by decide) _ _ _ rfl ((hown.out.alloc (.cells #[.int .i64 line2, .int .i64 j2, .int .i64 c2, .int .i64 m2, .int .u64 a2, .int .u64 p2, .bool found2, .int .i64 tail2, .int .i64 cyc2] 67)).alloc (.cells #[.int .i64 c] 3)) ⟨w8.heap.size + 1, 0, none⟩ 1 1 [.int .i64 c] rfl rfl ?c1 ?c2 ?c3 ?c4 ?c5 ?_))
            case c1 =>
              intro j u hu
              have h9 := news_new (w8.alloc (.cells #[.int .i64 line2, .int .i64 j2, .int .i64 c2, .int .i64 m2, .int .u64 a2, .int .u64 p2, .bool found2, .int .i64 tail2, .int .i64 cyc2] 67)) [.int .i64 c] 3 j u hu
              rw [World.size_alloc] at h9
              exact h9
            case c2 => simp [Value.oneCell']
            case c3 => simp only [maxLen]; omega
            case c4 => omega
            case c5 => simp only [World.size_alloc]; omega
            intro v' w1 hown1 hg1 _ hat
            obtain ⟨S, hFS, hS⟩ := own_fr hg1 (fun j e => HO.out j e)
            obtain ⟨hq1, hq2, hq3, hq4⟩ := hlt3.out
            have hFF3 := ((hFF.alloc (.cells #[.int .i64 line2, .int .i64 j2, .int .i64 c2, .int .i64 m2, .int .u64 a2, .int .u64 p2, .bool found2, .int .i64 tail2, .int .i64 cyc2] 67)).alloc (.cells #[.int .i64 c] 3)).grown hg1 (fun j hj hj2 => by have := HO.out j hj; omega)
            have HH3 := ((HH.alloc (.cells #[.int .i64 line2, .int .i64 j2, .int .i64 c2, .int .i64 m2, .int .u64 a2, .int .u64 p2, .bool found2, .int .i64 tail2, .int .i64 cyc2] 67)).alloc (.cells #[.int .i64 c] 3)).kept hFS (fun q => by have := hS _ q; omega) (fun q => by have := hS _ q; omega) (fun q => by have := hS _ q; omega)
            have hB3 := ((hB.alloc (.cells #[.int .i64 line2, .int .i64 j2, .int .i64 c2, .int .i64 m2, .int .u64 a2, .int .u64 p2, .bool found2, .int .i64 tail2, .int .i64 cyc2] 67)).alloc (.cells #[.int .i64 c] 3)).kept hFS (fun q => by have := hS _ q; omega)
            have hL3 := ((hL.alloc (.cells #[.int .i64 line2, .int .i64 j2, .int .i64 c2, .int .i64 m2, .int .u64 a2, .int .u64 p2, .bool found2, .int .i64 tail2, .int .i64 cyc2] 67)).alloc (.cells #[.int .i64 c] 3)).kept hFS (fun b hb q => by have := hS _ q; have e2 : lb = b := Option.some.inj hb; omega)
            have hU3 := ((hU.alloc (.cells #[.int .i64 line2, .int .i64 j2, .int .i64 c2, .int .i64 m2, .int .u64 a2, .int .u64 p2, .bool found2, .int .i64 tail2, .int .i64 cyc2] 67)).alloc (.cells #[.int .i64 c] 3)).kept hFS (fun b hb q => by have := hS _ q; have e2 : ub = b := Option.some.inj hb; omega)
            have hX3 := ((hX.alloc (.cells #[.int .i64 line2, .int .i64 j2, .int .i64 c2, .int .i64 m2, .int .u64 a2, .int .u64 p2, .bool found2, .int .i64 tail2, .int .i64 cyc2] 67)).alloc (.cells #[.int .i64 c] 3)).kept hFS (fun q => by have := hS _ q; omega)
            have hY3 := (hY.alloc (.cells #[.int .i64 c] 3)).kept hFS (fun q => by have := hS _ q; omega)
            have kX3 := hX3.cell
            have fX3 := hX3.free
            have kY3 := hY3.cell
            have dx3 : ¬ X = w8.heap.size := dx1
            clear hq1 hq2 hq3 hq4 hS hFS hg1 hat HH hB hL hU hX hY hFF kX fX kX1 fX1 kY kB kBA
            go_wp2_with fail
            replace hX3 := hX3.set9 (.int .i64 line2) (.int .i64 j2) (.int .i64 c2) (.int .i64 m2) (.int .u64 a2) (.int .u64 p2) (.bool found2) (.int .i64 tail2) (.int .i64 cyc2)
            go_roundw
            case rel =>
              refine ⟨n + 1, W ++ [c], s2, ⟨line2, j2, c2, m2, a2, p2, found2, tail2, cyc2⟩, by go_num, hA2.out, ?_, hX3, ?_, ?_, ?_, ?_, ?_, ?_⟩
              · repeat (first | with_reducible exact HH3 | with_reducible refine HAt.other ?_ nx1 nx2 nx3 _)
              · repeat (first | with_reducible exact hB3 | with_reducible refine Blk.other ?_ dBX _)
              · repeat (first | with_reducible exact hL3 | with_reducible refine RdS.other ?_ d_hL _)
              · repeat (first | with_reducible exact hU3 | with_reducible refine RdS.other ?_ d_hU _)
              · refine hid ?_
                rw [i64s_append, List.length_append]
                exact owns_set9 hown1 (.int .i64 line2) (.int .i64 j2) (.int .i64 c2) (.int .i64 m2) (.int .u64 a2) (.int .u64 p2) (.bool found2) (.int .i64 tail2) (.int .i64 cyc2)
              · rw [List.length_append]; simp only [List.length_cons, List.length_nil]; omega
              · repeat (first | with_reducible exact hFF3 | with_reducible refine Fr.setNew ?_ tX _)
            case measure => simp [intOf]; omega
        · rw [if_neg hap] at hA2
          replace hA2 := hid hA2
          have b2 : (wh == 2) = false := by unfold appB at hap; simp at hap; simp; exact hap.1
          have b5 : (wh == 5) = false := by unfold appB at hap; simp at hap; simp; exact hap.2
          clear hap
          go_wp2_with (first | (go_at_call 34; refine (HX.out _ HH).mono ?_; rintro e w8 ⟨rfl, HH, hF2⟩; (replace hX := hX.kept hF2 nX); (replace kX := hX.cell); (replace fX := hX.free); (replace hB := hB.kept hF2 nB); (replace kB := hB.cell); (replace hL := hL.kept hF2 n_hL); (replace hU := hU.kept hF2 n_hU); (replace hFF := hFF.trans_new hF2 hSS); (replace hown := hid (owns_keptS hown.out hF2 hNS.out)); (have kBA := (hB.alloc (.cells #[.int .i64 line2, .int .i64 j2, .int .i64 c2, .int .i64 m2, .int .u64 a2, .int .u64 p2, .bool found2, .int .i64 tail2, .int .i64 cyc2] 67)).cell); (have hX1 := hX.alloc (.cells #[.int .i64 line2, .int .i64 j2, .int .i64 c2, .int .i64 m2, .int .u64 a2, .int .u64 p2, .bool found2, .int .i64 tail2, .int .i64 cyc2] 67)); (have kX1 := hX1.cell); (have fX1 := hX1.free); (have lX8 := hX.lt); (have hY := Blk.new w8 [.int .i64 line2, .int .i64 j2, .int .i64 c2, .int .i64 m2, .int .u64 a2, .int .u64 p2, .bool found2, .int .i64 tail2, .int .i64 cyc2] 67); (have kY := hY.cell); (have dx1 : ¬ X = w8.heap.size := by omega); (have dx2 : ¬ w8.heap.size = X := by omega); (have sF2 := hF2.size)))
          replace hX := (hX.set9 (.int .i64 line2) (.int .i64 j2) (.int .i64 c2) (.int .i64 m2) (.int .u64 a2) (.int .u64 p2) (.bool found2) (.int .i64 tail2) (.int .i64 cyc2)).alloc (.cells #[.int .i64 line2, .int .i64 j2, .int .i64 c2, .int .i64 m2, .int .u64 a2, .int .u64 p2, .bool found2, .int .i64 tail2, .int .i64 cyc2] 67)
          go_roundw
          case rel =>
            refine ⟨n + 1, W, s2, ⟨line2, j2, c2, m2, a2, p2, found2, tail2, cyc2⟩, by go_num, hA2.out, ?_, hX, ?_, ?_, ?_, ?_, by omega, ?_⟩
            · refine HAt.alloc ?_ _
              repeat (first | with_reducible exact HH | with_reducible refine HAt.other ?_ nx1 nx2 nx3 _)
            · refine Blk.alloc ?_ _
              repeat (first | with_reducible exact hB | with_reducible refine Blk.other ?_ dBX _)
            · refine RdS.alloc ?_ _
              repeat (first | with_reducible exact hL | with_reducible refine RdS.other ?_ d_hL _)
            · refine RdS.alloc ?_ _
              repeat (first | with_reducible exact hU | with_reducible refine RdS.other ?_ d_hU _)
            · exact hid ((owns_set9 hown.out (.int .i64 line2) (.int .i64 j2) (.int .i64 c2) (.int .i64 m2) (.int .u64 a2) (.int .u64 p2) (.bool found2) (.int .i64 tail2) (.int .i64 cyc2)).alloc _)
            · refine Fr.alloc ?_ _
              repeat (first | with_reducible exact hFF | with_reducible refine Fr.setNew ?_ tX _)
          case measure => simp [intOf]; omega

end Go.Proofs.Ytnhnbgkhbhgifaa
