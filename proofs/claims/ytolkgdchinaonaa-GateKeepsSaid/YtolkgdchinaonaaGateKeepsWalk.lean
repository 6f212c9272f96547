/- mudlarklaw12.GateKeeps: the walk. -/
import Derived.Deep.DeepCutAuto
import Derived.Deep.Cut
import Derived.Deep.CutRange
import Derived.Deep.CutBlock
import Derived.Test.YtolkgdchinaonaaGateKP
import Derived.Test.YtolkgdchinaonaaBarOP
import Derived.Test.YtolkgdchinaonaaMutsW
import Derived.Test.YtolkgdchinaonaaAwake12
import Derived.Test.YtolkgdchinaonaaRdAt
import Derived.Test.YtolkgdchinaonaaPlace
namespace Go.Proofs.Ytolkgdchinaonaa
open Go.RowKit
set_option linter.unusedVariables false
set_option linter.unusedSimpArgs false

theorem newK_any {k : Nat} (h0 : 1 ≤ k) (h1 : k ≤ 6) (W : World) : Calls Try.prog 38 #[.agg #[.int .i64 2, .int .i64 (k : Int), .int .i64 1, .int .i64 0]] W fun e w' => (∃ h ab db, e = .returned (.tuple #[.pointer (some ⟨h, 0, none⟩), .int .i64 0]) ∧ HAt w' h ab db ⟨⟨2, k, 1, 0⟩, firstW ⟨2, k, 1, 0⟩, Acc.z⟩ ∧ W.heap.size ≤ h ∧ W.heap.size ≤ ab ∧ W.heap.size ≤ db) ∧ Fr [] W w' :=
  new_ok (w := W) (c := ⟨2, k, 1, 0⟩) (by constructor <;> simp only <;> omega)
theorem in_k {k m : Nat} (h0 : 1 ≤ k) (h1 : k ≤ 6) (hm : m < k) (W : World) : Calls Try.prog 45 #[.agg #[.int .i64 2, .int .i64 (k : Int), .int .i64 1, .int .i64 0], .int .i64 (m : Int)] W fun e w' => e = .returned (.int .i64 (5 + (m : Int))) ∧ Fr [] W w' := by
  have h := in_any (c := ⟨2, k, 1, 0⟩) (by constructor <;> simp only <;> omega) (m : Int) W
  rw [inP_at hm] at h
  exact h
theorem Blk.atmv {w : World} {b : Nat} {t : TypeId} {A : List MutV} (h : Blk w b t (mutsCs A)) {m : Nat} {ln q : Int} (hx : A[m]? = some (mv ln q)) : w.cell? ⟨b, m * 13, none⟩ = some (.int .i64 ln) ∧ w.cell? ⟨b, m * 13 + 1, none⟩ = some (.int .i64 q) ∧ w.cell? ⟨b, m * 13 + 2, none⟩ = some (.int .i64 0) ∧ w.cell? ⟨b, m * 13 + 3, none⟩ = some (.int .i64 0) ∧ w.cell? ⟨b, m * 13 + 4, none⟩ = some (.int .i64 0) ∧ w.cell? ⟨b, m * 13 + 5, none⟩ = some (.int .u64 0) ∧ w.cell? ⟨b, m * 13 + 6, none⟩ = some (.int .u64 0) ∧ w.cell? ⟨b, m * 13 + 7, none⟩ = some (.int .u64 0) ∧ w.cell? ⟨b, m * 13 + 8, none⟩ = some (.int .u64 0) ∧ w.cell? ⟨b, m * 13 + 9, none⟩ = some (.int .u64 0) ∧ w.cell? ⟨b, m * 13 + 10, none⟩ = some (.int .u64 0) ∧ w.cell? ⟨b, m * 13 + 11, none⟩ = some (.int .i64 0) ∧ w.cell? ⟨b, m * 13 + 12, none⟩ = some (.int .i64 0) :=
  h.at13 hx
theorem rds_u8 {W : World} {ua : Option Addr} {n uc : Nat} {l : List Int} (h : RdS W (.slice ua n uc) n (l.map (Value.int .u8))) {j : Nat} (hj : j < l.length) (hwf : ∀ x, x ∈ l → 0 ≤ x ∧ x ≤ 255) : ∃ p : Int, (0 ≤ p ∧ p ≤ 255) ∧ ∀ lb lo, ua = some ⟨lb, lo, none⟩ → W.cell? ⟨lb, lo + j, none⟩ = some (.int .u8 p) := by
  refine ⟨l[j], hwf _ (List.getElem_mem hj), ?_⟩
  rintro lb lo rfl
  rcases h with ⟨h1, h2, _⟩ | ⟨b2, o2, cap2, e, _, hc⟩
  · have : (l.map (Value.int .u8)).length = 0 := by rw [h2]; rfl
    rw [List.length_map] at this; omega
  · cases e
    rw [hc j (by simpa using hj)]
    simp [hj]
/-- What is stored, with a mutator's box. -/
structure GkY (h ab db M Y : Nat) (w wr : World) (s : HS) (A : List MutV) (ys : List Value) : Prop where
  H : HAt wr h ab db s
  M : Blk wr M 54 (mutsCs A)
  Y : Blk wr Y 54 ys
  F : Fr [] w wr
set_option maxRecDepth 100000 in
set_option maxHeartbeats 8000000 in
theorem gateKeeps_any (n : Int) (hn : 0 ≤ n ∧ n ≤ 255) (v : Value) (l : List Int) (w : World) (hv : RdS w v l.length (l.map (Value.int .u8))) (hwf : ∀ x, x ∈ l → 0 ≤ x ∧ x ≤ 255) :
    Calls Try.prog 6 #[.int .u8 n, v] w fun e w' => e = .returned (.bool true) ∧ Fr [] w w' := by
  obtain ⟨ua, uc, rfl, hu⟩ := hv.elim
  obtain ⟨k, hk⟩ : ∃ k : Nat, (k : Int) = 1 + n % 5 := ⟨(1 + n % 5).toNat, by omega⟩
  have hk1 : 1 ≤ k := by omega
  have hk5 : k ≤ 5 := by omega
  have hkw : 1 + n % 5 = (k : Int) := hk.symm
  have HN := hid (fun W => newK_any hk1 (by omega) W)
  have hn0 := hn.1
  have hn1 := hn.2
  replace hk := hid hk
  by_cases h6 : l.length ≤ 600
  case neg =>
    clear hv hu hwf
    obtain ⟨nn, hnn⟩ : ∃ z, z = l.length := ⟨_, rfl⟩
    rw [← hnn] at h6 ⊢
    have h7 : (600 : Int) < (nn : Int) := by omega
    clear h6 hnn
    go_enter Try.func6, Try.ntmps6
    go_wp2_with (first | (go_at_call 37; refine (awake12_any _).mono ?_; rintro e w2 ⟨rfl, hFF⟩) | (go_at_call 38; refine (HN.out _).mono ?_; rintro e w3 ⟨⟨h, ab, db, rfl, HH, q1, q2, q3⟩, hF2⟩; (have sF := hFF.size); (have zz1 := Nat.le_trans sF q1); (have zz2 := Nat.le_trans sF q2); (have zz3 := Nat.le_trans sF q3); (have hSS := fun i (m : i ∈ [h, db]) (l : i < w.heap.size) => (show i ∈ ([] : List Nat) by simp at m; omega)); (replace hFF := hFF.trans hF2); clear q1 q2 q3 sF))
    go_ret
    exact ⟨rfl, hFF⟩
  have HI := hid (fun (m : Nat) (hm : m < k) W => in_k hk1 (by omega) hm W)
  obtain ⟨A0, hA0⟩ : ∃ A, A = List.replicate k mutZ := ⟨_, rfl⟩
  have hmk := fun W => mkMuts W k (by omega)
  rw [← hA0] at hmk
  have HG0 : ∀ s : HS, s.c = ⟨2, k, 1, 0⟩ → s.ws = firstW ⟨2, k, 1, 0⟩ → GkAt k false s A0 := by
    intro s h1 h2; rw [hA0]; exact (gk_first k s h1 h2).1
  replace HG0 := hid HG0
  clear hA0
  have HD := hid (fun (j : Nat) (hj : j < l.length) W (h : RdS W (.slice ua l.length uc) l.length (l.map (Value.int .u8))) => rds_u8 h hj hwf)
  obtain ⟨nn, hnn⟩ : ∃ z, z = l.length := ⟨_, rfl⟩
  rw [← hnn] at h6 hv HD hu ⊢
  have hu2 : 0 < nn → ∃ lb lo, ua = some ⟨lb, lo, none⟩ := fun h => by obtain ⟨b, o, e, _⟩ := hu h; exact ⟨b, o, e⟩
  clear hu
  have h7 : (nn : Int) ≤ 600 := by omega
  clear hnn h6
  have hL := hv
  have HL := hid (fun W (f : Fr [] w W) => hv.kept0 f)
  clear hv hL
  go_enter Try.func6, Try.ntmps6
  go_wp2_with (first | (go_at_call 37; refine (awake12_any _).mono ?_; rintro e w2 ⟨rfl, hFF⟩) | (go_at_call 38; refine (HN.out _).mono ?_; rintro e w3 ⟨⟨h, ab, db, rfl, HH, q1, q2, q3⟩, hF2⟩; (have sF := hFF.size); (have zz1 := Nat.le_trans sF q1); (have zz2 := Nat.le_trans sF q2); (have zz3 := Nat.le_trans sF q3); (have hSS := fun i (m : i ∈ [h, db]) (l : i < w.heap.size) => (show i ∈ ([] : List Nat) by simp at m; omega)); (replace hFF := hFF.trans hF2); clear q1 q2 q3 sF))
  obtain ⟨M, hMe⟩ : ∃ M, M = w3.heap.size := ⟨_, rfl⟩
  have hM := Blk.new w3 (mutsCs A0) 54
  have l1 := HH.blk.lt
  have l2 := HH.ar.dat.lt
  have l3 := HH.ar.hdr.lt
  have sF := hFF.size
  replace hFF := hFF.alloc (.cells (mutsCs A0).toArray 54)
  replace HH := HH.alloc (.cells (mutsCs A0).toArray 54)
  rw [← hMe] at hM ⊢
  have nm1 : h ≠ M := by omega
  have nm2 : ab ≠ M := by omega
  have nm3 : db ≠ M := by omega
  have nM : M ∉ [h, db] := by simp; omega
  have t0 : w.heap.size ≤ M := by omega
  have hst := HG0.out ⟨⟨2, k, 1, 0⟩, firstW ⟨2, k, 1, 0⟩, Acc.z⟩ rfl rfl
  obtain ⟨s0, hs0⟩ : ∃ s : HS, s = ⟨⟨2, k, 1, 0⟩, firstW ⟨2, k, 1, 0⟩, Acc.z⟩ := ⟨_, rfl⟩
  rw [← hs0] at hst HH
  clear hMe l1 l2 l3 sF zz1 zz2 zz3 HG0 hs0 hmk HN
  go_loopw [9, 10] (fun cl i wr => ∃ (j : Nat) (c : Bool) (s : HS) (A : List MutV), j ≤ nn ∧ i = .int .i64 j ∧ cl = .bool c ∧ GkAt k c s A ∧ HAt wr h ab db s ∧ Blk wr M 54 (mutsCs A) ∧ Fr [] w wr) (fun _ i _ => nn - (intOf i).toNat)
  case atStart => exact ⟨0, false, s0, A0, by omega, rfl, rfl, hst, HH, hM, hFF⟩
  case round =>
    clear HH hM hFF hst
    obtain ⟨j, c, s, A, hj, rfl, rfl, hG, HH, hM, hFF⟩ := hrel
    by_cases hlt : j < nn
    case neg =>
      obtain rfl : j = nn := by omega
      go_wp2_with fail
      go_ret
      exact ⟨rfl, hFF⟩
    obtain ⟨lb, lo, rfl⟩ := hu2 (by omega)
    obtain ⟨p, ⟨p0, p1⟩, hp⟩ := HD.out j hlt wr (HL.out wr hFF)
    have d1 := hp lb lo rfl
    clear hp
    obtain ⟨m, hm⟩ : ∃ m : Nat, (m : Int) = Int.tmod p ((k : Int) + 1) := ⟨(Int.tmod p ((k : Int) + 1)).toNat, by have := Int.tmod_nonneg (a := p) ((k : Int) + 1) p0; omega⟩
    have hmk2 : m ≤ k := by have := Int.tmod_lt_of_pos p (show (0 : Int) < (k : Int) + 1 by omega); omega
    have hmw : Int.tmod p ((k : Int) + 1) = (m : Int) := hm.symm
    have hmw2 : p % ((k : Int) + 1) = (m : Int) := by rw [hm, Int.tmod_eq_emod_of_nonneg p0]
    replace hm := hid hm
    have kne : ((k : Int) + 1 == 0) = false := beq_eq_false_iff_ne.2 (by omega)
    by_cases hmk3 : m = k
    · subst hmk3
      have hcc := hid hG.cfg
      cases c with
      | false =>
        have HS1 := hid (fun (W : World) (H : HAt W h ab db s) => hstore_any H 1 1 (by omega))
        have hG2 := hid (hG.flip true)
        clear hG
        go_wp2_with (first | (go_at_call 39; refine (HS1.out _ HH).mono ?_; rintro e w4 ⟨rfl, HH, hF2⟩; (replace hM := hM.kept hF2 nM); (replace hFF := hFF.trans_new hF2 hSS)))
        go_roundw
        case rel => exact ⟨j + 1, true, _, A, by omega, by go_num, rfl, hG2.out, HH, hM, hFF⟩
        case measure => simp [intOf]; omega
      | true =>
        have HS1 := hid (fun (W : World) (H : HAt W h ab db s) => hstore_any H 1 0 (by omega))
        have hG2 := hid (hG.flip false)
        clear hG
        go_wp2_with (first | (go_at_call 39; refine (HS1.out _ HH).mono ?_; rintro e w4 ⟨rfl, HH, hF2⟩; (replace hM := hM.kept hF2 nM); (replace hFF := hFF.trans_new hF2 hSS)))
        go_roundw
        case rel => exact ⟨j + 1, false, _, A, by omega, by go_num, rfl, hG2.out, HH, hM, hFF⟩
        case measure => simp [intOf]; omega
    have hm3 : m < k := by omega
    have hmi : (m : Int) < (k : Int) := by omega
    have hmb : ((m : Int) == (k : Int)) = false := beq_eq_false_iff_ne.2 (by omega)
    have HI1 := fun W => HI.out m hm3 W
    obtain ⟨ln, q, hA, hq, hg, hw⟩ := hG.at hm3
    obtain ⟨t1, t2, t3, t4⟩ := hG.step hm3 hg hw
    have hmA : m < A.length := by rw [hG.lenA]; exact hm3
    have hbd := t4.bd (5 + m)
    have hcc := hid t4.cfg
    have hnlg : gkLine (gkNext (if c = true then 1 else 0) (gkFrom ln)) := by
      rcases hg with rfl | rfl | rfl | rfl | rfl | rfl | rfl <;> cases c <;> decide
    have hins : c = true → insideB (gkFrom ln) = true ∨ insideB (gkNext (if c = true then 1 else 0) (gkFrom ln)) = false := by
      intro e; subst e
      rcases hg with rfl | rfl | rfl | rfl | rfl | rfl | rfl <;> decide
    have hop : c = false → gkFrom ln = 5 → insideB (gkNext (if c = true then 1 else 0) (gkFrom ln)) = true := by
      intro e; subst e
      rcases hg with rfl | rfl | rfl | rfl | rfl | rfl | rfl <;> decide
    have HX0 := fun (W : World) (H : HAt W h ab db s) => gate_any H m (mv (gkFrom ln) 11)
    rw [t1, t2] at HX0
    obtain ⟨s2, hs2⟩ : ∃ z, z = (gateM s m (mv (gkFrom ln) 11)).s := ⟨_, rfl⟩
    rw [← hs2] at HX0 t3 t4 hbd hcc
    clear hs2 t1 t2 hw hG hmk2 hmk3 hm
    obtain ⟨nl, hnl⟩ : ∃ z, z = gkNext (if c = true then 1 else 0) (gkFrom ln) := ⟨_, rfl⟩
    rw [← hnl] at HX0 t3 t4 hnlg hins hop
    clear hnl
    obtain ⟨f, hf⟩ : ∃ z, z = gkFrom ln := ⟨_, rfl⟩
    obtain ⟨f1, hf1⟩ : ∃ z, z = if ln = 0 then (1 : Int) else ln := ⟨_, rfl⟩
    have hff : f = if f1 = 24 then 90 else f1 := by
      rw [hf, hf1]
      rcases hg with rfl | rfl | rfl | rfl | rfl | rfl | rfl <;> rfl
    rw [← hf] at HX0 hins hop
    clear hf
    have HLd := fun (W : World) (B : AAt W ab db s2.ws) => aload B (5 + (m : Int))
    obtain ⟨v2, hv2⟩ : ∃ z, z = wAt s2.ws (5 + (m : Int)) := ⟨_, rfl⟩
    rw [← hv2] at HLd t3 hbd
    clear hv2
    have HSy := fun W => gsays_any v2 W hbd.1 hbd.2
    rw [t3] at HSy
    clear t3 hbd
    obtain ⟨e, hsy⟩ : ∃ e, e = sy nl := ⟨_, rfl⟩
    rw [← hsy] at HSy
    replace hsy := hid hsy
    replace hnlg := hid hnlg
    replace hins := hid hins
    replace hop := hid hop
    replace HLd := hid HLd
    replace HI1 := hid HI1
    replace HSy := hid HSy
    replace t4 := hid t4
    obtain ⟨g0, g1, g2, g3, g4, g5, g6, g7, g8, g9, g10, g11, g12⟩ := hM.atmv hA
    have lh1 := HH.blk.lt
    have lh2 := HH.ar.hdr.lt
    have lh3 := HH.ar.dat.lt
    have lM := hM.lt
    have sF := hFF.size
    have nx1 : h ≠ wr.heap.size := by omega
    have nx2 : ab ≠ wr.heap.size := by omega
    have nx3 : db ≠ wr.heap.size := by omega
    have nX : wr.heap.size ∉ [h, db] := by simp; omega
    have dMX : M ≠ wr.heap.size := by omega
    have tX : w.heap.size ≤ wr.heap.size := by omega
    have hY0 : GkY h ab db M wr.heap.size w (wr.alloc (.cells #[.int .i64 ln, .int .i64 q, .int .i64 0, .int .i64 0, .int .i64 0, .int .u64 0, .int .u64 0, .int .u64 0, .int .u64 0, .int .u64 0, .int .u64 0, .int .i64 0, .int .i64 0] 54)) s A [.int .i64 ln, .int .i64 q, .int .i64 0, .int .i64 0, .int .i64 0, .int .u64 0, .int .u64 0, .int .u64 0, .int .u64 0, .int .u64 0, .int .u64 0, .int .i64 0, .int .i64 0] := ⟨HH.alloc _, hM.alloc _, Blk.new wr _ _, hFF.alloc _⟩
    have kY := hY0.Y.cell
    go_upto_if 75 with fail
    clear HH hM hFF g0 g1 g2 g3 g4 g5 g6 g7 g8 g9 g10 g11 g12
    generalize wr.alloc (.cells #[.int .i64 ln, .int .i64 q, .int .i64 0, .int .i64 0, .int .i64 0, .int .u64 0, .int .u64 0, .int .u64 0, .int .u64 0, .int .u64 0, .int .u64 0, .int .i64 0, .int .i64 0] 54) = W0 at hY0 kY ⊢
    go_cut [] from 72 to 77 (fun wx => GkY h ab db M wr.heap.size w wx s A [.int .i64 f1, .int .i64 11, .int .i64 0, .int .i64 0, .int .i64 0, .int .u64 0, .int .u64 0, .int .u64 0, .int .u64 0, .int .u64 0, .int .u64 0, .int .i64 0, .int .i64 0])
    case first =>
      by_cases h0 : ln = 0
      · have b0 : (ln == 0) = true := by simp [h0]
        rw [if_pos h0] at hf1
        subst hf1
        clear h0 hff
        obtain ⟨HH, hM, hY, hFF⟩ := hY0
        go_wp2_with (first | (go_at_call 40; refine (gbegin_any 11 0 0 0 _).mono ?_; rintro e w5 ⟨rfl, hF2⟩; (replace hY := hY.kept hF2 List.not_mem_nil); (have kY5 := hY.cell); (have fY5 := hY.free); (replace HH := HH.kept0 hF2); (replace hM := hM.kept hF2 List.not_mem_nil); (replace hFF := hFF.trans hF2)))
        go_meet
        exact ⟨HH.setM nx1 nx2 nx3 (.int .i64 1) (.int .i64 11) (.int .i64 0) (.int .i64 0) (.int .i64 0) (.int .u64 0) (.int .u64 0) (.int .u64 0) (.int .u64 0) (.int .u64 0) (.int .u64 0) (.int .i64 0) (.int .i64 0), hM.othM dMX (.int .i64 1) (.int .i64 11) (.int .i64 0) (.int .i64 0) (.int .i64 0) (.int .u64 0) (.int .u64 0) (.int .u64 0) (.int .u64 0) (.int .u64 0) (.int .u64 0) (.int .i64 0) (.int .i64 0), hY.setM (.int .i64 1) (.int .i64 11) (.int .i64 0) (.int .i64 0) (.int .i64 0) (.int .u64 0) (.int .u64 0) (.int .u64 0) (.int .u64 0) (.int .u64 0) (.int .u64 0) (.int .i64 0) (.int .i64 0), hFF.setM tX (.int .i64 1) (.int .i64 11) (.int .i64 0) (.int .i64 0) (.int .i64 0) (.int .u64 0) (.int .u64 0) (.int .u64 0) (.int .u64 0) (.int .u64 0) (.int .u64 0) (.int .i64 0) (.int .i64 0)⟩
      · have b0 : (ln == 0) = false := beq_eq_false_iff_ne.2 h0
        rw [if_neg h0] at hf1
        obtain rfl : q = 11 := by omega
        clear h0 hff
        go_wp2_with fail
        go_meet
        exact ⟨hY0.H, hY0.M, (by rw [hf1]; exact hY0.Y), hY0.F⟩
    case rest =>
      clear kY hf1
      have hY0 := hcut
      clear hcut
      have kY := hY0.Y.cell
      have fY := hY0.Y.free
      go_upto_if 80 with fail
      go_cut [] from 78 to 81 (fun wx => GkY h ab db M wr.heap.size w wx s A [.int .i64 f, .int .i64 11, .int .i64 0, .int .i64 0, .int .i64 0, .int .u64 0, .int .u64 0, .int .u64 0, .int .u64 0, .int .u64 0, .int .u64 0, .int .i64 0, .int .i64 0])
      case first =>
        by_cases h24 : f1 = 24
        · have b24 : (f1 == 24) = true := by simp [h24]
          rw [if_pos h24] at hff
          go_wp2_with fail
          go_meet
          exact ⟨hY0.H.other (p := ⟨wr.heap.size, 0, none⟩) nx1 nx2 nx3 (.int .i64 90), hY0.M.other (p := ⟨wr.heap.size, 0, none⟩) dMX (.int .i64 90), (by rw [hff]; exact hY0.Y.set 0 (.int .i64 90)), hY0.F.setNew (p := ⟨wr.heap.size, 0, none⟩) tX (.int .i64 90)⟩
        · have b24 : (f1 == 24) = false := beq_eq_false_iff_ne.2 h24
          rw [if_neg h24] at hff
          go_wp2_with fail
          go_meet
          exact ⟨hY0.H, hY0.M, (by rw [hff]; exact hY0.Y), hY0.F⟩
      case rest =>
        clear kY fY hY0
        obtain ⟨HH, hM, hX, hFF⟩ := hcut
        have HX : ∀ (W : World) (H : HAt W h ab db s), Calls Try.prog 41 #[.pointer (some ⟨h, 0, none⟩), .int .i64 (m : Int), .agg #[.int .i64 f, .int .i64 11, .int .i64 0, .int .i64 0, .int .i64 0, .int .u64 0, .int .u64 0, .int .u64 0, .int .u64 0, .int .u64 0, .int .u64 0, .int .i64 0, .int .i64 0]] W fun e w' => e = .returned (.tuple #[.agg #[.int .i64 nl, .int .i64 11, .int .i64 0, .int .i64 0, .int .i64 0, .int .u64 0, .int .u64 0, .int .u64 0, .int .u64 0, .int .u64 0, .int .u64 0, .int .i64 0, .int .i64 0], .bool true]) ∧ HAt w' h ab db s2 ∧ Fr [h, db] W w' := HX0
        clear HX0 hff
        replace HX := hid HX
        have kX := hX.cell
        go_upto_region 27 with (first | (go_at_call 41; refine (HX.out _ HH).mono ?_; rintro e w8 ⟨rfl, HH, hF2⟩; (replace hX := hX.kept hF2 nX); (replace hM := hM.kept hF2 nM); (have lM8 := hM.lt); (replace hFF := hFF.trans_new hF2 hSS); (replace kX := hX.cell)))
        have sF8 := hFF.size
        have hYb : GkY h ab db M w8.heap.size w (w8.alloc (.cells #[.int .i64 nl, .int .i64 11, .int .i64 0, .int .i64 0, .int .i64 0, .int .u64 0, .int .u64 0, .int .u64 0, .int .u64 0, .int .u64 0, .int .u64 0, .int .i64 0, .int .i64 0] 54)) s2 A [.int .i64 nl, .int .i64 11, .int .i64 0, .int .i64 0, .int .i64 0, .int .u64 0, .int .u64 0, .int .u64 0, .int .u64 0, .int .u64 0, .int .u64 0, .int .i64 0, .int .i64 0] := ⟨HH.alloc _, hM.alloc _, Blk.new w8 _ _, hFF.alloc _⟩
        replace hX := hX.alloc (.cells #[.int .i64 nl, .int .i64 11, .int .i64 0, .int .i64 0, .int .i64 0, .int .u64 0, .int .u64 0, .int .u64 0, .int .u64 0, .int .u64 0, .int .u64 0, .int .i64 0, .int .i64 0] 54)
        have dMY : M ≠ w8.heap.size := by omega
        have tY : w.heap.size ≤ w8.heap.size := by omega
        clear kX HH hM hFF lM8 sF8
        generalize w8.heap.size = Yb at hYb dMY tY ⊢
        generalize w8.alloc (.cells #[.int .i64 nl, .int .i64 11, .int .i64 0, .int .i64 0, .int .i64 0, .int .u64 0, .int .u64 0, .int .u64 0, .int .u64 0, .int .u64 0, .int .u64 0, .int .i64 0, .int .i64 0] 54) = W8 at hYb hX ⊢
        go_cut [9, 116] from 89 to 115 (fun z9 z116 wx => (z9 = .bool c ∧ z116 = .bool false) ∧ GkY h ab db M Yb w wx s2 A [.int .i64 nl, .int .i64 11, .int .i64 0, .int .i64 0, .int .i64 0, .int .u64 0, .int .u64 0, .int .u64 0, .int .u64 0, .int .u64 0, .int .u64 0, .int .i64 0, .int .i64 0])
        case first =>
          have kX := hX.cell
          have kY := hYb.Y.cell
          have HInF := fun W => inside_any f 11 0 0 0 0 0 0 0 0 0 0 0 W
          have HInN := fun W => inside_any nl 11 0 0 0 0 0 0 0 0 0 0 0 W
          cases c with
          | false =>
            have ho := hop.out rfl
            by_cases h5 : f = 5
            · have b5 : (f == 5) = true := by simp [h5]
              rw [ho h5] at HInN
              clear ho h5 HInF
              replace HInN := hid HInN
              go_wp2_with fail
              go_at_call 42
              refine (HInN.out _).mono ?_
              rintro e w9 ⟨rfl, hF2⟩
              go_wp2_with fail
              go_meet
              exact ⟨⟨rfl, rfl⟩, hYb.H.kept0 hF2, hYb.M.kept hF2 List.not_mem_nil, hYb.Y.kept hF2 List.not_mem_nil, hYb.F.trans hF2⟩
            · have b5 : (f == 5) = false := beq_eq_false_iff_ne.2 h5
              clear ho h5 HInF HInN
              go_wp2_with fail
              go_meet
              exact ⟨⟨rfl, rfl⟩, hYb⟩
          | true =>
            have hi := hins.out rfl
            cases hbi : insideB f with
            | true =>
              rw [hbi] at HInF
              clear hi hbi HInN
              replace HInF := hid HInF
              go_wp2_with fail
              go_at_call 42
              refine (HInF.out _).mono ?_
              rintro e w9 ⟨rfl, hF2⟩
              go_wp2_with fail
              go_meet
              exact ⟨⟨rfl, rfl⟩, hYb.H.kept0 hF2, hYb.M.kept hF2 List.not_mem_nil, hYb.Y.kept hF2 List.not_mem_nil, hYb.F.trans hF2⟩
            | false =>
              have hbn : insideB nl = false := by
                rcases hi with e9 | e9
                · rw [hbi] at e9; cases e9
                · exact e9
              rw [hbi] at HInF
              rw [hbn] at HInN
              clear hi hbi hbn
              replace HInF := hid HInF
              replace HInN := hid HInN
              go_wp2_with fail
              go_at_call 42
              refine (HInF.out _).mono ?_
              rintro e w9 ⟨rfl, hF2⟩
              have kY9 := (hYb.Y.kept hF2 List.not_mem_nil).cell
              go_wp2_with fail
              go_at_call 42
              refine (HInN.out _).mono ?_
              rintro e w10 ⟨rfl, hF3⟩
              go_wp2_with fail
              go_meet
              exact ⟨⟨rfl, rfl⟩, (hYb.H.kept0 hF2).kept0 hF3, (hYb.M.kept hF2 List.not_mem_nil).kept hF3 List.not_mem_nil, (hYb.Y.kept hF2 List.not_mem_nil).kept hF3 List.not_mem_nil, (hYb.F.trans hF2).trans hF3⟩
        case rest =>
          obtain ⟨⟨rfl, rfl⟩, HHa, hMa, hYa, hFFa⟩ := hcut
          clear hX hYb HX hins hop nx1 nx2 nx3 nX dMX tX
          have kY := hYa.cell
          have fM8 := hMa.free
          obtain ⟨g0, g1, g2, g3, g4, g5, g6, g7, g8, g9, g10, g11, g12⟩ := hMa.atmv hA
          have hM2 := (hMa.set13 hmA (mv nl 11)).drew
          have HH2 := (HHa.oth13 nm1 nm2 nm3 (m * 13) (.int .i64 nl) (.int .i64 11) (.int .i64 0) (.int .i64 0) (.int .i64 0) (.int .u64 0) (.int .u64 0) (.int .u64 0) (.int .u64 0) (.int .u64 0) (.int .u64 0) (.int .i64 0) (.int .i64 0)).drew
          have hFF2 := (hFFa.set13 t0 (m * 13) (.int .i64 nl) (.int .i64 11) (.int .i64 0) (.int .i64 0) (.int .i64 0) (.int .u64 0) (.int .u64 0) (.int .u64 0) (.int .u64 0) (.int .u64 0) (.int .u64 0) (.int .i64 0) (.int .i64 0)).drew
          have hY2 := (hYa.oth13 (Ne.symm dMY) (m * 13) (.int .i64 nl) (.int .i64 11) (.int .i64 0) (.int .i64 0) (.int .i64 0) (.int .u64 0) (.int .u64 0) (.int .u64 0) (.int .u64 0) (.int .u64 0) (.int .u64 0) (.int .i64 0) (.int .i64 0)).drew
          unfold W13 at hM2 HH2 hFF2 hY2
          go_wp2_with fail
          clear kY fM8 g0 g1 g2 g3 g4 g5 g6 g7 g8 g9 g10 g11 g12 HHa hMa hYa hFFa
          replace kY := hY2.cell
          have kH := HH2.cellsC hcc.out
          go_region_held3 (fun W => W.cell? ⟨h, 0, none⟩ = some (.pointer (some ⟨ab, 0, none⟩)) ∧ W.cell? ⟨h, 1, none⟩ = some (.int .i64 2) ∧ W.cell? ⟨h, 2, none⟩ = some (.int .i64 (k : Int)) ∧ W.cell? ⟨h, 3, none⟩ = some (.int .i64 1) ∧ W.cell? ⟨h, 4, none⟩ = some (.int .i64 0)) (go_keep)
            (first | (go_at_call 45; refine (HI1.out _).mono ?_; rintro e w11 ⟨rfl, hF2⟩; (replace HH2 := HH2.kept0 hF2); (replace hM2 := hM2.kept hF2 List.not_mem_nil); (replace hY2 := hY2.kept hF2 List.not_mem_nil); (replace kY := hY2.cell); (replace kH := HH2.cellsC hcc.out); (replace hFF2 := hFF2.trans hF2)) | (go_at_call 44; refine (HLd.out _ HH2.ar).mono ?_; rintro e w12 ⟨rfl, rfl⟩) | (go_at_call 43; refine (HSy.out _).mono ?_; rintro e w13 ⟨rfl, rfl⟩))
          go_upto_block 2 with fail
          go_cut [15] from 135 to 156 (fun z15 wx => z15 = .bool true ∧ wx = w11)
          case first =>
            replace hnlg := hnlg.out
            replace hsy := hsy.out
            rcases hnlg with e0 | e0 | e0 | e0 | e0 | e0 | e0
            · have he : (e == 0) = true := by simp [hsy, e0, sy]
              have n0 : (nl == 0) = true := by simp [e0]
              have n2 : (nl == 2) = false := by simp [e0]
              have n4 : (nl == 4) = false := by simp [e0]
              have n3 : (nl == 3) = false := by simp [e0]
              have n5 : (nl == 5) = false := by simp [e0]
              have n6 : (nl == 6) = false := by simp [e0]
              have n24 : (nl == 24) = false := by simp [e0]
              clear e0 hsy
              go_wp2_with fail
              go_meet
              exact ⟨rfl, rfl⟩
            · have he : (e == 1) = true := by simp [hsy, e0, sy]
              have n0 : (nl == 0) = false := by simp [e0]
              have n2 : (nl == 2) = true := by simp [e0]
              have n4 : (nl == 4) = false := by simp [e0]
              have n3 : (nl == 3) = false := by simp [e0]
              have n5 : (nl == 5) = false := by simp [e0]
              have n6 : (nl == 6) = false := by simp [e0]
              have n24 : (nl == 24) = false := by simp [e0]
              clear e0 hsy
              go_wp2_with fail
              go_meet
              exact ⟨rfl, rfl⟩
            · have he : (e == 1) = true := by simp [hsy, e0, sy]
              have n0 : (nl == 0) = false := by simp [e0]
              have n2 : (nl == 2) = false := by simp [e0]
              have n4 : (nl == 4) = false := by simp [e0]
              have n3 : (nl == 3) = true := by simp [e0]
              have n5 : (nl == 5) = false := by simp [e0]
              have n6 : (nl == 6) = false := by simp [e0]
              have n24 : (nl == 24) = false := by simp [e0]
              clear e0 hsy
              go_wp2_with fail
              go_meet
              exact ⟨rfl, rfl⟩
            · have he : (e == 1) = true := by simp [hsy, e0, sy]
              have n0 : (nl == 0) = false := by simp [e0]
              have n2 : (nl == 2) = false := by simp [e0]
              have n4 : (nl == 4) = true := by simp [e0]
              have n3 : (nl == 3) = false := by simp [e0]
              have n5 : (nl == 5) = false := by simp [e0]
              have n6 : (nl == 6) = false := by simp [e0]
              have n24 : (nl == 24) = false := by simp [e0]
              clear e0 hsy
              go_wp2_with fail
              go_meet
              exact ⟨rfl, rfl⟩
            · have he : (e == 3) = true := by simp [hsy, e0, sy]
              have n0 : (nl == 0) = false := by simp [e0]
              have n2 : (nl == 2) = false := by simp [e0]
              have n4 : (nl == 4) = false := by simp [e0]
              have n3 : (nl == 3) = false := by simp [e0]
              have n5 : (nl == 5) = true := by simp [e0]
              have n6 : (nl == 6) = false := by simp [e0]
              have n24 : (nl == 24) = false := by simp [e0]
              clear e0 hsy
              go_wp2_with fail
              go_meet
              exact ⟨rfl, rfl⟩
            · have he : (e == 3) = true := by simp [hsy, e0, sy]
              have n0 : (nl == 0) = false := by simp [e0]
              have n2 : (nl == 2) = false := by simp [e0]
              have n4 : (nl == 4) = false := by simp [e0]
              have n3 : (nl == 3) = false := by simp [e0]
              have n5 : (nl == 5) = false := by simp [e0]
              have n6 : (nl == 6) = true := by simp [e0]
              have n24 : (nl == 24) = false := by simp [e0]
              clear e0 hsy
              go_wp2_with fail
              go_meet
              exact ⟨rfl, rfl⟩
            · have he : (e == 2) = true := by simp [hsy, e0, sy]
              have n0 : (nl == 0) = false := by simp [e0]
              have n2 : (nl == 2) = false := by simp [e0]
              have n4 : (nl == 4) = false := by simp [e0]
              have n3 : (nl == 3) = false := by simp [e0]
              have n5 : (nl == 5) = false := by simp [e0]
              have n6 : (nl == 6) = false := by simp [e0]
              have n24 : (nl == 24) = true := by simp [e0]
              clear e0 hsy
              go_wp2_with fail
              go_meet
              exact ⟨rfl, rfl⟩
          case rest =>
            obtain ⟨rfl, rfl⟩ := hcut
            go_wp2_with fail
            go_roundw
            case rel => exact ⟨j + 1, c, s2, _, by omega, by go_num, rfl, t4.out, HH2, hM2, hFF2⟩
            case measure => simp [intOf]; omega

end Go.Proofs.Ytolkgdchinaonaa
