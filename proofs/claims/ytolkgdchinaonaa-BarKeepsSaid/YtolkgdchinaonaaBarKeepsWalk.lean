/- mudlarklaw17.BarKeeps: the walk. -/
import Derived.Deep.DeepCutAuto
import Derived.Deep.Cut
import Derived.Deep.CutRange
import Derived.Deep.CutBlock
import Derived.Test.YtolkgdchinaonaaGoLaw
import Derived.Test.YtolkgdchinaonaaBarOP
import Derived.Test.YtolkgdchinaonaaAwake17
import Derived.Test.YtolkgdchinaonaaBaAny
import Derived.Test.YtolkgdchinaonaaGateLaw
import Derived.Test.YtolkgdchinaonaaCBox
namespace Go.Proofs.Ytolkgdchinaonaa
open Go.RowKit
set_option linter.unusedVariables false
set_option linter.unusedSimpArgs false

def cCs (x : ColV) : List Value := [.int .i64 x.line, .int .i64 x.j, .int .i64 x.c, .int .i64 x.m, .int .u64 x.a, .int .u64 x.p, .bool x.found, .int .i64 x.tail, .int .i64 x.cyc]
theorem bc_wf {l m a : Int} {k : Nat} {s : HS} {A : List MutV} (hk : k ≤ 6) (h : BkAt k s A l m a) : (bc l m a).Wf ∧ (bc l m a).Near := by
  have h1 := h.line
  have h2 := h.ab
  have h3 := h.cm
  exact ⟨by constructor <;> simp only [bc] <;> omega, by constructor <;> simp only [bc] <;> omega⟩
/-- How all stands, and what is stored of it. -/
structure BkM (k : Nat) (h ab db M G X Wb : Nat) (w wr : World) (s : HS) (A : List MutV) (l mm a : Int) (rs : List Int) : Prop where
  bk : BkAt k s A l mm a
  H : HAt wr h ab db s
  M : Blk wr M 54 (mutsCs A)
  G : Blk wr G 3 (ints rs)
  X : Blk wr X 81 (cCs (bc l mm a))
  W : Blk wr Wb 3 (ints (List.replicate k 0))
  rl : rs.length = k
  rb : ∀ g, g ∈ rs → 0 ≤ g ∧ g ≤ 3
  F : Fr [] w wr
theorem BkM.kept {k h ab db M G X Wb : Nat} {w wr w' : World} {s : HS} {A : List MutV} {l mm a : Int} {rs : List Int} (B : BkM k h ab db M G X Wb w wr s A l mm a rs) (f : Fr [] wr w') : BkM k h ab db M G X Wb w w' s A l mm a rs :=
  ⟨B.bk, B.H.kept0 f, B.M.kept f List.not_mem_nil, B.G.kept f List.not_mem_nil, B.X.kept f List.not_mem_nil, B.W.kept f List.not_mem_nil, B.rl, B.rb, B.F.trans f⟩
/-- The same, with a mutator's box. -/
structure BkY (k h ab db M G X Wb Y : Nat) (w wr : World) (s : HS) (A : List MutV) (l mm a : Int) (rs : List Int) (ys : List Value) : Prop where
  H : HAt wr h ab db s
  M : Blk wr M 54 (mutsCs A)
  G : Blk wr G 3 (ints rs)
  X : Blk wr X 81 (cCs (bc l mm a))
  W : Blk wr Wb 3 (ints (List.replicate k 0))
  Y : Blk wr Y 54 ys
  rl : rs.length = k
  rb : ∀ g, g ∈ rs → 0 ≤ g ∧ g ≤ 3
  F : Fr [] w wr
theorem rep_set (k m : Nat) : (List.replicate k (0 : Int)).set m 0 = List.replicate k 0 := by
  apply List.ext_getElem
  · simp
  · intro j h1 h2; simp [List.getElem_set]
theorem zero_at {k m : Nat} (h : m < k) : (List.replicate k (0 : Int))[m]? = some 0 := by simp [h]
theorem rb_set {rs : List Int} {m : Nat} {x : Int} (h : ∀ g, g ∈ rs → 0 ≤ g ∧ g ≤ 3) (hx : 0 ≤ x ∧ x ≤ 3) : ∀ g, g ∈ rs.set m x → 0 ≤ g ∧ g ≤ 3 := by
  intro g hg
  rcases List.mem_or_eq_of_mem_set hg with q | q
  · exact h g q
  · rw [q]; exact hx
set_option maxRecDepth 100000 in
set_option maxHeartbeats 8000000 in
theorem barKeeps_any (n : Int) (hn : 0 ≤ n ∧ n ≤ 255) (v : Value) (l : List Int) (st : Int) (hst : 0 ≤ st ∧ st ≤ 255) (w : World) (hv : RdS w v l.length (l.map (Value.int .u8))) (hwf : ∀ x, x ∈ l → 0 ≤ x ∧ x ≤ 255) :
    Calls Try.prog 9 #[.int .u8 n, v, .int .u8 st] w fun e w' => e = .returned (.bool true) ∧ Fr [] w w' := by
  obtain ⟨ua, uc, rfl, hu⟩ := hv.elim
  obtain ⟨k, hk⟩ : ∃ k : Nat, (k : Int) = 1 + n % 5 := ⟨(1 + n % 5).toNat, by omega⟩
  have hk1 : 1 ≤ k := by omega
  have hk5 : k ≤ 5 := by omega
  have hkw : 1 + n % 5 = (k : Int) := hk.symm
  have HN := hid (fun W => newK_go hk1 (by omega) W)
  have hn0 := hn.1
  have hn1 := hn.2
  have hst0 := hst.1
  have hst1 := hst.2
  obtain ⟨sr, hsr⟩ : ∃ z, z = st % 4 := ⟨_, rfl⟩
  have hsr1 : 0 ≤ sr ∧ sr ≤ 3 := by omega
  have hsr2 : st % 4 = sr := hsr.symm
  have hsr3 : Int.tmod st 4 = sr := by rw [Int.tmod_eq_emod_of_nonneg hst.1]; exact hsr2
  clear hsr
  replace hk := hid hk
  by_cases h6 : l.length ≤ 800
  case neg =>
    clear hv hu hwf
    obtain ⟨nn, hnn⟩ : ∃ z, z = l.length := ⟨_, rfl⟩
    rw [← hnn] at h6 ⊢
    have h7 : (800 : Int) < (nn : Int) := by omega
    clear h6 hnn
    go_enter Try.func9, Try.ntmps9
    go_wp2_with (first | (go_at_call 52; refine (awake17_any _).mono ?_; rintro e w2 ⟨rfl, hFF⟩) | (go_at_call 38; refine (HN.out _).mono ?_; rintro e w3 ⟨⟨h, ab, db, rfl, HH, q1, q2, q3⟩, hF2⟩; (have sF := hFF.size); (have zz1 := Nat.le_trans sF q1); (have zz2 := Nat.le_trans sF q2); (have zz3 := Nat.le_trans sF q3); (have hSS := fun i (m : i ∈ [h, db]) (l : i < w.heap.size) => (show i ∈ ([] : List Nat) by simp at m; omega)); (replace hFF := hFF.trans hF2); clear q1 q2 q3 sF))
    go_ret
    exact ⟨rfl, hFF⟩
  have HI := hid (fun (m : Nat) (hm : m < k) W => in_k hk1 (by omega) hm W)
  obtain ⟨A0, hA0⟩ : ∃ A, A = List.replicate k mutZ := ⟨_, rfl⟩
  obtain ⟨G0, hG0⟩ : ∃ G, G = List.replicate k (0 : Int) := ⟨_, rfl⟩
  have hmk := fun W => mkMuts W k (by omega)
  have hmi := fun W => mkInts W k (by omega)
  rw [← hA0] at hmk
  rw [← hG0] at hmi
  have hB0 : ∀ s : HS, s.c = ⟨2, k, 1, 0⟩ → s.ws = firstW ⟨2, k, 1, 0⟩ → BkAt k s A0 10 0 0 := by
    intro s h1 h2; rw [hA0]; exact bk_first k hk1 s h1 h2
  replace hB0 := hid hB0
  have hGl : G0.length = k ∧ ∀ g, g ∈ G0 → 0 ≤ g ∧ g ≤ 3 := by rw [hG0]; exact ⟨List.length_replicate, fun g hg => by rw [List.mem_replicate] at hg; omega⟩
  replace hGl := hid hGl
  replace hG0 := hid hG0
  clear hA0
  have HD := hid (fun (j : Nat) (hj : j < l.length) W (h : RdS W (.slice ua l.length uc) l.length (l.map (Value.int .u8))) => rds_u8 h hj hwf)
  obtain ⟨nn, hnn⟩ : ∃ z, z = l.length := ⟨_, rfl⟩
  rw [← hnn] at h6 hv HD hu ⊢
  have hu2 : 0 < nn → ∃ lb lo, ua = some ⟨lb, lo, none⟩ := fun h => by obtain ⟨b, o, e, _⟩ := hu h; exact ⟨b, o, e⟩
  clear hu
  have h7 : (nn : Int) ≤ 800 := by omega
  clear hnn h6
  have HL := hid (fun W (f : Fr [] w W) => hv.kept0 f)
  clear hv
  go_enter Try.func9, Try.ntmps9
  go_wp2_with (first | (go_at_call 52; refine (awake17_any _).mono ?_; rintro e w2 ⟨rfl, hFF⟩) | (go_at_call 38; refine (HN.out _).mono ?_; rintro e w3 ⟨⟨h, ab, db, rfl, HH, q1, q2, q3⟩, hF2⟩; (have sF := hFF.size); (have zz1 := Nat.le_trans sF q1); (have zz2 := Nat.le_trans sF q2); (have zz3 := Nat.le_trans sF q3); (have hSS := fun i (m : i ∈ [h, db]) (l : i < w.heap.size) => (show i ∈ ([] : List Nat) by simp at m; omega)); (replace hFF := hFF.trans hF2); clear q1 q2 q3 sF))
  obtain ⟨M, hMe⟩ : ∃ M, M = w3.heap.size := ⟨_, rfl⟩
  have l1 := HH.blk.lt
  have l2 := HH.ar.dat.lt
  have l3 := HH.ar.hdr.lt
  have sF := hFF.size
  have hM := (((Blk.new w3 (mutsCs A0) 54).alloc (.cells (ints G0).toArray 3)).alloc (.cells #[.int .i64 10, .int .i64 0, .int .i64 0, .int .i64 0, .int .u64 0, .int .u64 0, .bool false, .int .i64 0, .int .i64 0] 81)).alloc (.cells (ints G0).toArray 3)
  have hG := ((Blk.new (w3.alloc (.cells (mutsCs A0).toArray 54)) (ints G0) 3).alloc (.cells #[.int .i64 10, .int .i64 0, .int .i64 0, .int .i64 0, .int .u64 0, .int .u64 0, .bool false, .int .i64 0, .int .i64 0] 81)).alloc (.cells (ints G0).toArray 3)
  have hX := (Blk.new ((w3.alloc (.cells (mutsCs A0).toArray 54)).alloc (.cells (ints G0).toArray 3)) [.int .i64 10, .int .i64 0, .int .i64 0, .int .i64 0, .int .u64 0, .int .u64 0, .bool false, .int .i64 0, .int .i64 0] 81).alloc (.cells (ints G0).toArray 3)
  have hW := Blk.new (((w3.alloc (.cells (mutsCs A0).toArray 54)).alloc (.cells (ints G0).toArray 3)).alloc (.cells #[.int .i64 10, .int .i64 0, .int .i64 0, .int .i64 0, .int .u64 0, .int .u64 0, .bool false, .int .i64 0, .int .i64 0] 81)) (ints G0) 3
  replace hFF := (((hFF.alloc (.cells (mutsCs A0).toArray 54)).alloc (.cells (ints G0).toArray 3)).alloc (.cells #[.int .i64 10, .int .i64 0, .int .i64 0, .int .i64 0, .int .u64 0, .int .u64 0, .bool false, .int .i64 0, .int .i64 0] 81)).alloc (.cells (ints G0).toArray 3)
  replace HH := (((HH.alloc (.cells (mutsCs A0).toArray 54)).alloc (.cells (ints G0).toArray 3)).alloc (.cells #[.int .i64 10, .int .i64 0, .int .i64 0, .int .i64 0, .int .u64 0, .int .u64 0, .bool false, .int .i64 0, .int .i64 0] 81)).alloc (.cells (ints G0).toArray 3)
  simp only [World.size_alloc, Nat.add_assoc] at hG hX hW
  rw [← hMe] at hM hG hX hW
  try simp only [World.size_alloc, Nat.add_assoc]
  rw [← hMe]
  obtain ⟨G, hGe⟩ : ∃ G, G = M + 1 := ⟨_, rfl⟩
  obtain ⟨X, hXe⟩ : ∃ X, X = M + (1 + 1) := ⟨_, rfl⟩
  obtain ⟨Wb, hWe⟩ : ∃ X, X = M + (1 + (1 + 1)) := ⟨_, rfl⟩
  rw [← hWe] at hW ⊢
  rw [← hGe] at hG ⊢
  rw [← hXe] at hX ⊢
  have nm1 : h ≠ M := by omega
  have nm2 : ab ≠ M := by omega
  have nm3 : db ≠ M := by omega
  have nM : M ∉ [h, db] := by simp; omega
  have tM : w.heap.size ≤ M := by omega
  have ng1 : h ≠ G := by omega
  have ng2 : ab ≠ G := by omega
  have ng3 : db ≠ G := by omega
  have nG : G ∉ [h, db] := by simp; omega
  have tG : w.heap.size ≤ G := by omega
  have nx1 : h ≠ X := by omega
  have nx2 : ab ≠ X := by omega
  have nx3 : db ≠ X := by omega
  have nX : X ∉ [h, db] := by simp; omega
  have tX : w.heap.size ≤ X := by omega
  have nw1 : h ≠ Wb := by omega
  have nw2 : ab ≠ Wb := by omega
  have nw3 : db ≠ Wb := by omega
  have nWb : Wb ∉ [h, db] := by simp; omega
  have tWb : w.heap.size ≤ Wb := by omega
  have dMG : M ≠ G := by omega
  have dGM : G ≠ M := by omega
  have dMX : M ≠ X := by omega
  have dXM : X ≠ M := by omega
  have dMWb : M ≠ Wb := by omega
  have dWbM : Wb ≠ M := by omega
  have dGX : G ≠ X := by omega
  have dXG : X ≠ G := by omega
  have dGWb : G ≠ Wb := by omega
  have dWbG : Wb ≠ G := by omega
  have dXWb : X ≠ Wb := by omega
  have dWbX : Wb ≠ X := by omega
  have BD : k ≤ 6 := by omega
  have hst0 := hB0.out ⟨⟨2, k, 1, 0⟩, firstW ⟨2, k, 1, 0⟩, Acc.z⟩ rfl rfl
  have hrel0 : BkM k h ab db M G X Wb w _ _ A0 10 0 0 G0 := ⟨hst0, HH, hM, hG, hX, (by have h9 := hW; generalize hq : ints G0 = iG at h9 ⊢; rw [hG0.out] at hq; rw [hq]; exact h9), hGl.out.1, hGl.out.2, hFF⟩
  obtain ⟨s0, hs0⟩ : ∃ s : HS, s = ⟨⟨2, k, 1, 0⟩, firstW ⟨2, k, 1, 0⟩, Acc.z⟩ := ⟨_, rfl⟩
  rw [← hs0] at hrel0
  clear hst0 HH hM hG hX hW hFF hs0 hB0 hGl hG0 hMe hGe hXe hWe l1 l2 l3 sF zz1 zz2 zz3 hmk hmi HN
  go_loopw [14] (fun i wr => ∃ (j : Nat) (s : HS) (A : List MutV) (l mm a : Int) (rs : List Int), j ≤ nn ∧ i = .int .i64 j ∧ BkM k h ab db M G X Wb w wr s A l mm a rs) (fun i _ => nn - (intOf i).toNat)
  case atStart => exact ⟨0, s0, A0, 10, 0, 0, G0, by omega, rfl, hrel0⟩
  case round =>
    clear hrel0
    obtain ⟨j, s, A, l, mm, a, rs, hj, rfl, hB⟩ := hrel
    by_cases hlt : j < nn
    case neg =>
      obtain rfl : j = nn := by omega
      have hFF := hB.F
      go_wp2_with fail
      go_ret
      exact ⟨rfl, hFF⟩
    obtain ⟨lb, lo, rfl⟩ := hu2 (by omega)
    obtain ⟨p, ⟨p0, p1⟩, hp⟩ := HD.out j hlt wr (HL.out wr hB.F)
    have d1 := hp lb lo rfl
    clear hp
    obtain ⟨m, hm⟩ : ∃ m : Nat, (m : Int) = Int.tmod p ((k : Int) + 1) := ⟨(Int.tmod p ((k : Int) + 1)).toNat, by have := Int.tmod_nonneg (a := p) ((k : Int) + 1) p0; omega⟩
    have hmk2 : m ≤ k := by have := Int.tmod_lt_of_pos p (show (0 : Int) < (k : Int) + 1 by omega); omega
    have hmw : Int.tmod p ((k : Int) + 1) = (m : Int) := hm.symm
    have hmw2 : p % ((k : Int) + 1) = (m : Int) := by rw [hm, Int.tmod_eq_emod_of_nonneg p0]
    replace hm := hid hm
    have kne : ((k : Int) + 1 == 0) = false := beq_eq_false_iff_ne.2 (by omega)
    have hB1 := hB
    go_upto_if 74 with fail
    clear d1 hmw hmw2 kne
    go_cut [16, 17, 18, 19, 20, 21, 22] from 74 to 187 (fun z16 z17 z18 z19 z20 z21 z22 wx => ∃ (s : HS) (A : List MutV) (l mm a : Int) (rs : List Int), BkM k h ab db M G X Wb w wx s A l mm a rs)
    case first =>
      obtain ⟨hb, HH, hM, hG, hX, hW, hrl, hrb, hFF⟩ := hB
      clear hB1
      by_cases hmk3 : m = k
      · have hmkb : ((m : Int) == (k : Int)) = true := by simp [hmk3]
        clear hmk3
        have hcc := hid hb.gk.cfg
        have hl := hb.line
        by_cases hl20 : l = 20
        · subst hl20
          have hb2 := hb.anew
          obtain ⟨wf, nr⟩ := bc_wf BD hb2
          obtain ⟨hc1, hc2⟩ := hb2.col (by omega)
          have HX0 := fun (W : World) (H : HAt W h ab db s) => ba_any H (bc 10 0 a) wf nr
          obtain ⟨l', m', a', hx', hb'⟩ := hc2
          have HX : ∀ (W : World) (H : HAt W h ab db s), Calls Try.prog 53 #[.pointer (some ⟨h, 0, none⟩), .agg #[.int .i64 10, .int .i64 0, .int .i64 0, .int .i64 0, .int .u64 a, .int .u64 0, .bool false, .int .i64 0, .int .i64 0]] W fun e w' => e = .returned (.tuple #[.agg #[.int .i64 l', .int .i64 0, .int .i64 0, .int .i64 m', .int .u64 a', .int .u64 0, .bool false, .int .i64 0, .int .i64 0], .bool (barM s (bc 10 0 a)).flip, .bool true]) ∧ HAt w' h ab db (barM s (bc 10 0 a)).s ∧ Fr [h, db] W w' := by
            rw [hc1, hx'] at HX0; exact HX0
          obtain ⟨s2, hs2⟩ : ∃ z, z = (barM s (bc 10 0 a)).s := ⟨_, rfl⟩
          obtain ⟨fl, hfl⟩ : ∃ z, z = (barM s (bc 10 0 a)).flip := ⟨_, rfl⟩
          rw [← hs2] at HX hb'
          rw [← hfl] at HX
          clear hs2 hfl hc1 wf nr hx' HX0
          replace HX := hid HX
          replace hb' := hid hb'
          have hXc : Blk wr X 81 [.int .i64 20, .int .i64 0, .int .i64 0, .int .i64 mm, .int .u64 a, .int .u64 0, .bool false, .int .i64 0, .int .i64 0] := hX
          clear hX
          have kX := hXc.cell
          have fX := hXc.free
          go_wp2_with (first | (go_at_call 53; (replace hXc := (hXc.set 0 (.int .i64 10)).set 3 (.int .i64 0)); (replace HH := (HH.other (p := ⟨X, 0, none⟩) nx1 nx2 nx3 (.int .i64 10)).other (p := ⟨X, 3, none⟩) nx1 nx2 nx3 (.int .i64 0)); (replace hM := (hM.other (p := ⟨X, 0, none⟩) dMX (.int .i64 10)).other (p := ⟨X, 3, none⟩) dMX (.int .i64 0)); (replace hG := (hG.other (p := ⟨X, 0, none⟩) dGX (.int .i64 10)).other (p := ⟨X, 3, none⟩) dGX (.int .i64 0)); (replace hW := (hW.other (p := ⟨X, 0, none⟩) dWbX (.int .i64 10)).other (p := ⟨X, 3, none⟩) dWbX (.int .i64 0)); (replace hFF := (hFF.setNew (p := ⟨X, 0, none⟩) tX (.int .i64 10)).setNew (p := ⟨X, 3, none⟩) tX (.int .i64 0)); refine (HX.out _ HH).mono ?_; rintro e w8 ⟨rfl, HH, hF2⟩; (replace hXc := hXc.kept hF2 nX); (replace hM := hM.kept hF2 nM); (replace hG := hG.kept hF2 nG); (replace hW := hW.kept hF2 nWb); (replace hFF := hFF.trans_new hF2 hSS); (have lX8 := hXc.lt); (have dXY : ¬ X = w8.heap.size := by omega); (have dXY2 : ¬ w8.heap.size = X := by omega); (have kXa := (hXc.alloc (.cells #[.int .i64 l', .int .i64 0, .int .i64 0, .int .i64 m', .int .u64 a', .int .u64 0, .bool false, .int .i64 0, .int .i64 0] 81)).cell); (have fXa := (hXc.alloc (.cells #[.int .i64 l', .int .i64 0, .int .i64 0, .int .i64 m', .int .u64 a', .int .u64 0, .bool false, .int .i64 0, .int .i64 0] 81)).free); (replace kX := hXc.cell); (replace fX := hXc.free); (have kY := (Blk.new w8 [.int .i64 l', .int .i64 0, .int .i64 0, .int .i64 m', .int .u64 a', .int .u64 0, .bool false, .int .i64 0, .int .i64 0] 81).cell)))
          go_wp2_with fail
          go_meet
          refine ⟨s2, A, l', m', a', rs, hb'.out, ?_, ?_, ?_, ?_, ?_, hrl, hrb, ?_⟩
          · refine HAt.alloc ?_ _
            repeat (first | with_reducible exact HH | with_reducible refine HAt.other ?_ nx1 nx2 nx3 _)
          · refine Blk.alloc ?_ _
            repeat (first | with_reducible exact hM | with_reducible refine Blk.other ?_ dMX _)
          · refine Blk.alloc ?_ _
            repeat (first | with_reducible exact hG | with_reducible refine Blk.other ?_ dGX _)
          · exact (hXc.set9 (.int .i64 l') (.int .i64 0) (.int .i64 0) (.int .i64 m') (.int .u64 a') (.int .u64 0) (.bool false) (.int .i64 0) (.int .i64 0)).alloc (.cells #[.int .i64 l', .int .i64 0, .int .i64 0, .int .i64 m', .int .u64 a', .int .u64 0, .bool false, .int .i64 0, .int .i64 0] 81)
          · refine Blk.alloc ?_ _
            repeat (first | with_reducible exact hW | with_reducible refine Blk.other ?_ dWbX _)
          · refine Fr.alloc ?_ _
            repeat (first | with_reducible exact hFF | with_reducible refine Fr.setNew ?_ tX _)
        · have hl3 : l ≠ 3 := by omega
          obtain ⟨wf, nr⟩ := bc_wf BD hb
          obtain ⟨hc1, hc2⟩ := hb.col hl20
          have hgk := hid hb.gk
          by_cases hl11 : l = 11
          · subst hl11
            have hsh := hid (hb.shut rfl)
            have HX0 := fun (W : World) (H : HAt W h ab db s) => ba_any H (bc 11 mm a) wf nr
            obtain ⟨l', m', a', hx', hb'⟩ := hc2
            have HX : ∀ (W : World) (H : HAt W h ab db s), Calls Try.prog 53 #[.pointer (some ⟨h, 0, none⟩), .agg #[.int .i64 11, .int .i64 0, .int .i64 0, .int .i64 mm, .int .u64 a, .int .u64 0, .bool false, .int .i64 0, .int .i64 0]] W fun e w' => e = .returned (.tuple #[.agg #[.int .i64 l', .int .i64 0, .int .i64 0, .int .i64 m', .int .u64 a', .int .u64 0, .bool false, .int .i64 0, .int .i64 0], .bool (barM s (bc 11 mm a)).flip, .bool true]) ∧ HAt w' h ab db (barM s (bc 11 mm a)).s ∧ Fr [h, db] W w' := by
              rw [hc1, hx'] at HX0; exact HX0
            obtain ⟨s2, hs2⟩ : ∃ z, z = (barM s (bc 11 mm a)).s := ⟨_, rfl⟩
            obtain ⟨fl, hfl⟩ : ∃ z, z = (barM s (bc 11 mm a)).flip := ⟨_, rfl⟩
            rw [← hs2] at HX hb'
            rw [← hfl] at HX
            clear hs2 hfl hc1 wf nr hx' HX0
            replace HX := hid HX
            replace hb' := hid hb'
            have hXc : Blk wr X 81 [.int .i64 11, .int .i64 0, .int .i64 0, .int .i64 mm, .int .u64 a, .int .u64 0, .bool false, .int .i64 0, .int .i64 0] := hX
            clear hX
            have kX := hXc.cell
            have fX := hXc.free
            go_wp2_with (first | (go_at_call 53; refine (HX.out _ HH).mono ?_; rintro e w8 ⟨rfl, HH, hF2⟩; (replace hXc := hXc.kept hF2 nX); (replace hM := hM.kept hF2 nM); (replace hG := hG.kept hF2 nG); (replace hW := hW.kept hF2 nWb); (replace hFF := hFF.trans_new hF2 hSS); (have lX8 := hXc.lt); (have dXY : ¬ X = w8.heap.size := by omega); (have dXY2 : ¬ w8.heap.size = X := by omega); (have kXa := (hXc.alloc (.cells #[.int .i64 l', .int .i64 0, .int .i64 0, .int .i64 m', .int .u64 a', .int .u64 0, .bool false, .int .i64 0, .int .i64 0] 81)).cell); (have fXa := (hXc.alloc (.cells #[.int .i64 l', .int .i64 0, .int .i64 0, .int .i64 m', .int .u64 a', .int .u64 0, .bool false, .int .i64 0, .int .i64 0] 81)).free); (replace kX := hXc.cell); (replace fX := hXc.free); (have kY := (Blk.new w8 [.int .i64 l', .int .i64 0, .int .i64 0, .int .i64 m', .int .u64 a', .int .u64 0, .bool false, .int .i64 0, .int .i64 0] 81).cell)))
            have hMa := hM.alloc (.cells #[.int .i64 l', .int .i64 0, .int .i64 0, .int .i64 m', .int .u64 a', .int .u64 0, .bool false, .int .i64 0, .int .i64 0] 81)
            obtain ⟨WW, hWW⟩ : ∃ WW, WW = w8.alloc (.cells #[.int .i64 l', .int .i64 0, .int .i64 0, .int .i64 m', .int .u64 a', .int .u64 0, .bool false, .int .i64 0, .int .i64 0] 81) := ⟨_, rfl⟩
            rw [← hWW] at hMa
            go_loopw [19] (fun i wr => ∃ jj : Nat, jj ≤ k ∧ i = .int .i64 jj ∧ wr = w8.alloc (.cells #[.int .i64 l', .int .i64 0, .int .i64 0, .int .i64 m', .int .u64 a', .int .u64 0, .bool false, .int .i64 0, .int .i64 0] 81)) (fun i _ => k - (intOf i).toNat)
            case atStart => exact ⟨0, by omega, rfl, rfl⟩
            case round =>
              obtain ⟨jj, hjj, rfl, rfl⟩ := hrel
              by_cases hjk : jj < k
              case pos =>
                have hjk2 : (jj : Int) < (k : Int) := by omega
                obtain ⟨ln, q, hA, hqq, hg, hw⟩ := hgk.out.at hjk
                have hin := hsh.out jj hjk
                rw [lineOf_get hA] at hin
                rw [hWW] at hMa
                obtain ⟨g0, g1, g2, g3, g4, g5, g6, g7, g8, g9, g10, g11, g12⟩ := hMa.atmv hA
                have b4 : (ln == 4) = false := beq_eq_false_iff_ne.2 hin.1
                have b5 : (ln == 5) = false := beq_eq_false_iff_ne.2 hin.2.1
                clear hqq hg hw hin
                go_wp2_with fail
                go_roundw
                case rel => exact ⟨jj + 1, by omega, by go_num, by first | rfl | trivial⟩
                case measure => simp [intOf]; omega
              case neg =>
                obtain rfl : jj = k := by omega
                clear hMa hWW
                go_wp2_with fail
                go_meet
                refine ⟨s2, A, l', m', a', rs, hb'.out, ?_, ?_, ?_, ?_, ?_, hrl, hrb, ?_⟩
                · refine HAt.alloc ?_ _
                  repeat (first | with_reducible exact HH | with_reducible refine HAt.other ?_ nx1 nx2 nx3 _)
                · refine Blk.alloc ?_ _
                  repeat (first | with_reducible exact hM | with_reducible refine Blk.other ?_ dMX _)
                · refine Blk.alloc ?_ _
                  repeat (first | with_reducible exact hG | with_reducible refine Blk.other ?_ dGX _)
                · exact (hXc.set9 (.int .i64 l') (.int .i64 0) (.int .i64 0) (.int .i64 m') (.int .u64 a') (.int .u64 0) (.bool false) (.int .i64 0) (.int .i64 0)).alloc (.cells #[.int .i64 l', .int .i64 0, .int .i64 0, .int .i64 m', .int .u64 a', .int .u64 0, .bool false, .int .i64 0, .int .i64 0] 81)
                · refine Blk.alloc ?_ _
                  repeat (first | with_reducible exact hW | with_reducible refine Blk.other ?_ dWbX _)
                · refine Fr.alloc ?_ _
                  repeat (first | with_reducible exact hFF | with_reducible refine Fr.setNew ?_ tX _)
          · have HX0 := fun (W : World) (H : HAt W h ab db s) => ba_any H (bc l mm a) wf nr
            have b3 : (l == 3) = false := beq_eq_false_iff_ne.2 hl3
            have b20 : (l == 20) = false := beq_eq_false_iff_ne.2 hl20
            have b11 : (l == 11) = false := beq_eq_false_iff_ne.2 hl11
            obtain ⟨l', m', a', hx', hb'⟩ := hc2
            have HX : ∀ (W : World) (H : HAt W h ab db s), Calls Try.prog 53 #[.pointer (some ⟨h, 0, none⟩), .agg #[.int .i64 l, .int .i64 0, .int .i64 0, .int .i64 mm, .int .u64 a, .int .u64 0, .bool false, .int .i64 0, .int .i64 0]] W fun e w' => e = .returned (.tuple #[.agg #[.int .i64 l', .int .i64 0, .int .i64 0, .int .i64 m', .int .u64 a', .int .u64 0, .bool false, .int .i64 0, .int .i64 0], .bool (barM s (bc l mm a)).flip, .bool true]) ∧ HAt w' h ab db (barM s (bc l mm a)).s ∧ Fr [h, db] W w' := by
              rw [hc1, hx'] at HX0; exact HX0
            obtain ⟨s2, hs2⟩ : ∃ z, z = (barM s (bc l mm a)).s := ⟨_, rfl⟩
            obtain ⟨fl, hfl⟩ : ∃ z, z = (barM s (bc l mm a)).flip := ⟨_, rfl⟩
            rw [← hs2] at HX hb'
            rw [← hfl] at HX
            clear hs2 hfl hc1 wf nr hx' HX0
            replace HX := hid HX
            replace hb' := hid hb'
            have hXc : Blk wr X 81 [.int .i64 l, .int .i64 0, .int .i64 0, .int .i64 mm, .int .u64 a, .int .u64 0, .bool false, .int .i64 0, .int .i64 0] := hX
            clear hX
            have kX := hXc.cell
            have fX := hXc.free
            go_wp2_with (first | (go_at_call 53; refine (HX.out _ HH).mono ?_; rintro e w8 ⟨rfl, HH, hF2⟩; (replace hXc := hXc.kept hF2 nX); (replace hM := hM.kept hF2 nM); (replace hG := hG.kept hF2 nG); (replace hW := hW.kept hF2 nWb); (replace hFF := hFF.trans_new hF2 hSS); (have lX8 := hXc.lt); (have dXY : ¬ X = w8.heap.size := by omega); (have dXY2 : ¬ w8.heap.size = X := by omega); (have kXa := (hXc.alloc (.cells #[.int .i64 l', .int .i64 0, .int .i64 0, .int .i64 m', .int .u64 a', .int .u64 0, .bool false, .int .i64 0, .int .i64 0] 81)).cell); (have fXa := (hXc.alloc (.cells #[.int .i64 l', .int .i64 0, .int .i64 0, .int .i64 m', .int .u64 a', .int .u64 0, .bool false, .int .i64 0, .int .i64 0] 81)).free); (replace kX := hXc.cell); (replace fX := hXc.free); (have kY := (Blk.new w8 [.int .i64 l', .int .i64 0, .int .i64 0, .int .i64 m', .int .u64 a', .int .u64 0, .bool false, .int .i64 0, .int .i64 0] 81).cell)))
            go_wp2_with fail
            go_meet
            refine ⟨s2, A, l', m', a', rs, hb'.out, ?_, ?_, ?_, ?_, ?_, hrl, hrb, ?_⟩
            · refine HAt.alloc ?_ _
              repeat (first | with_reducible exact HH | with_reducible refine HAt.other ?_ nx1 nx2 nx3 _)
            · refine Blk.alloc ?_ _
              repeat (first | with_reducible exact hM | with_reducible refine Blk.other ?_ dMX _)
            · refine Blk.alloc ?_ _
              repeat (first | with_reducible exact hG | with_reducible refine Blk.other ?_ dGX _)
            · exact (hXc.set9 (.int .i64 l') (.int .i64 0) (.int .i64 0) (.int .i64 m') (.int .u64 a') (.int .u64 0) (.bool false) (.int .i64 0) (.int .i64 0)).alloc (.cells #[.int .i64 l', .int .i64 0, .int .i64 0, .int .i64 m', .int .u64 a', .int .u64 0, .bool false, .int .i64 0, .int .i64 0] 81)
            · refine Blk.alloc ?_ _
              repeat (first | with_reducible exact hW | with_reducible refine Blk.other ?_ dWbX _)
            · refine Fr.alloc ?_ _
              repeat (first | with_reducible exact hFF | with_reducible refine Fr.setNew ?_ tX _)
      · have hm3 : m < k := by omega
        have hmi : (m : Int) < (k : Int) := by omega
        have hmkb : ((m : Int) == (k : Int)) = false := beq_eq_false_iff_ne.2 (by omega)
        have ny1 : h ≠ wr.heap.size := by have := HH.blk.lt; omega
        have ny2 : ab ≠ wr.heap.size := by have := HH.ar.hdr.lt; omega
        have ny3 : db ≠ wr.heap.size := by have := HH.ar.dat.lt; omega
        have dMY : M ≠ wr.heap.size := by have := hM.lt; omega
        have dGY : G ≠ wr.heap.size := by have := hG.lt; omega
        have dGY2 : ¬ wr.heap.size = G := by omega
        have dXY : X ≠ wr.heap.size := by have := hX.lt; omega
        have dWY : Wb ≠ wr.heap.size := by have := hW.lt; omega
        have tY : w.heap.size ≤ wr.heap.size := hFF.size
        obtain ⟨ln, q, hA, hq, hg, hw⟩ := hb.gk.at hm3
        obtain ⟨t1, t2, t3⟩ := hb.mut hm3 hA hg hw
        have hmA : m < A.length := by rw [hb.gk.lenA]; exact hm3
        obtain ⟨g0, g1, g2, g3, g4, g5, g6, g7, g8, g9, g10, g11, g12⟩ := hM.atmv hA
        go_upto_block 4 with fail
        go_cut [74] from 123 to 154 (fun z74 wx => z74 = .bool false ∧ BkY k h ab db M G X Wb wr.heap.size w wx s A l mm a rs [.int .i64 (gkFrom ln), .int .i64 11, .int .i64 0, .int .i64 0, .int .i64 0, .int .u64 0, .int .u64 0, .int .u64 0, .int .u64 0, .int .u64 0, .int .u64 0, .int .i64 0, .int .i64 0])
        case first =>
          clear t1 t2 t3 hw
          obtain ⟨gv, hgv⟩ : ∃ gv, rs[m]? = some gv := ⟨rs[m]'(by omega), List.getElem?_eq_getElem (by omega)⟩
          have hgb := hrb gv (List.mem_of_getElem? hgv)
          have dg := ints_at hG hgv
          have fG := hG.free
          by_cases h0 : ln = 0
          · subst h0
            clear hgb
            have hY := Blk.new wr [.int .i64 0, .int .i64 q, .int .i64 0, .int .i64 0, .int .i64 0, .int .u64 0, .int .u64 0, .int .u64 0, .int .u64 0, .int .u64 0, .int .u64 0, .int .i64 0, .int .i64 0] 54
            go_wp2_with (first | (go_at_call 40; refine (gbegin_any 11 0 0 0 _).mono ?_; rintro e w5 ⟨rfl, hF2⟩; (replace hY := hY.kept hF2 List.not_mem_nil); (have kY5 := hY.cell); (have fY5 := hY.free); (replace HH := (HH.alloc (.cells #[.int .i64 0, .int .i64 q, .int .i64 0, .int .i64 0, .int .i64 0, .int .u64 0, .int .u64 0, .int .u64 0, .int .u64 0, .int .u64 0, .int .u64 0, .int .i64 0, .int .i64 0] 54)).kept0 hF2); (replace hM := (hM.alloc (.cells #[.int .i64 0, .int .i64 q, .int .i64 0, .int .i64 0, .int .i64 0, .int .u64 0, .int .u64 0, .int .u64 0, .int .u64 0, .int .u64 0, .int .u64 0, .int .i64 0, .int .i64 0] 54)).kept hF2 List.not_mem_nil); (replace hG := (hG.alloc (.cells #[.int .i64 0, .int .i64 q, .int .i64 0, .int .i64 0, .int .i64 0, .int .u64 0, .int .u64 0, .int .u64 0, .int .u64 0, .int .u64 0, .int .u64 0, .int .i64 0, .int .i64 0] 54)).kept hF2 List.not_mem_nil); (replace hX := (hX.alloc (.cells #[.int .i64 0, .int .i64 q, .int .i64 0, .int .i64 0, .int .i64 0, .int .u64 0, .int .u64 0, .int .u64 0, .int .u64 0, .int .u64 0, .int .u64 0, .int .i64 0, .int .i64 0] 54)).kept hF2 List.not_mem_nil); (replace hW := (hW.alloc (.cells #[.int .i64 0, .int .i64 q, .int .i64 0, .int .i64 0, .int .i64 0, .int .u64 0, .int .u64 0, .int .u64 0, .int .u64 0, .int .u64 0, .int .u64 0, .int .i64 0, .int .i64 0] 54)).kept hF2 List.not_mem_nil); (replace hFF := (hFF.alloc (.cells #[.int .i64 0, .int .i64 q, .int .i64 0, .int .i64 0, .int .i64 0, .int .u64 0, .int .u64 0, .int .u64 0, .int .u64 0, .int .u64 0, .int .u64 0, .int .i64 0, .int .i64 0] 54)).trans hF2)))
            go_meet
            exact ⟨rfl, HH.setM ny1 ny2 ny3 (.int .i64 1) (.int .i64 11) (.int .i64 0) (.int .i64 0) (.int .i64 0) (.int .u64 0) (.int .u64 0) (.int .u64 0) (.int .u64 0) (.int .u64 0) (.int .u64 0) (.int .i64 0) (.int .i64 0), hM.othM dMY (.int .i64 1) (.int .i64 11) (.int .i64 0) (.int .i64 0) (.int .i64 0) (.int .u64 0) (.int .u64 0) (.int .u64 0) (.int .u64 0) (.int .u64 0) (.int .u64 0) (.int .i64 0) (.int .i64 0), hG.othM dGY (.int .i64 1) (.int .i64 11) (.int .i64 0) (.int .i64 0) (.int .i64 0) (.int .u64 0) (.int .u64 0) (.int .u64 0) (.int .u64 0) (.int .u64 0) (.int .u64 0) (.int .i64 0) (.int .i64 0), hX.othM dXY (.int .i64 1) (.int .i64 11) (.int .i64 0) (.int .i64 0) (.int .i64 0) (.int .u64 0) (.int .u64 0) (.int .u64 0) (.int .u64 0) (.int .u64 0) (.int .u64 0) (.int .i64 0) (.int .i64 0), hW.othM dWY (.int .i64 1) (.int .i64 11) (.int .i64 0) (.int .i64 0) (.int .i64 0) (.int .u64 0) (.int .u64 0) (.int .u64 0) (.int .u64 0) (.int .u64 0) (.int .u64 0) (.int .i64 0) (.int .i64 0), hY.setM (.int .i64 1) (.int .i64 11) (.int .i64 0) (.int .i64 0) (.int .i64 0) (.int .u64 0) (.int .u64 0) (.int .u64 0) (.int .u64 0) (.int .u64 0) (.int .u64 0) (.int .i64 0) (.int .i64 0), hrl, hrb, hFF.setM tY (.int .i64 1) (.int .i64 11) (.int .i64 0) (.int .i64 0) (.int .i64 0) (.int .u64 0) (.int .u64 0) (.int .u64 0) (.int .u64 0) (.int .u64 0) (.int .u64 0) (.int .i64 0) (.int .i64 0)⟩
          · have hq : q = 11 := by omega
            subst hq
            by_cases h24 : ln = 24
            · subst h24
              by_cases hgz : 0 < gv
              · have hgd : decide (0 < gv) = true := by simpa using hgz
                have dgA := ints_at (hG.alloc (.cells #[.int .i64 24, .int .i64 11, .int .i64 0, .int .i64 0, .int .i64 0, .int .u64 0, .int .u64 0, .int .u64 0, .int .u64 0, .int .u64 0, .int .u64 0, .int .i64 0, .int .i64 0] 54)) hgv
                have fGA := (hG.alloc (.cells #[.int .i64 24, .int .i64 11, .int .i64 0, .int .i64 0, .int .i64 0, .int .u64 0, .int .u64 0, .int .u64 0, .int .u64 0, .int .u64 0, .int .u64 0, .int .i64 0, .int .i64 0] 54)).free
                go_wp2_with fail
                go_roundw
                case rel =>
                  refine ⟨j + 1, s, A, l, mm, a, rs.set m (gv - 1), by omega, by go_num, hb, ?_, ?_, ?_, ?_, ?_, by rw [List.length_set]; exact hrl, rb_set hrb (by omega), ?_⟩
                  · repeat (first | with_reducible exact HH | with_reducible refine HAt.other ?_ ng1 ng2 ng3 _ | with_reducible refine HAt.alloc ?_ _)
                  · repeat (first | with_reducible exact hM | with_reducible refine Blk.other ?_ dMG _ | with_reducible refine Blk.alloc ?_ _)
                  · first | exact ints_set (hG.alloc _) m (gv - 1) | exact (ints_set hG m (gv - 1)).alloc _
                  · repeat (first | with_reducible exact hX | with_reducible refine Blk.other ?_ dXG _ | with_reducible refine Blk.alloc ?_ _)
                  · repeat (first | with_reducible exact hW | with_reducible refine Blk.other ?_ dWbG _ | with_reducible refine Blk.alloc ?_ _)
                  · repeat (first | with_reducible exact hFF | with_reducible refine Fr.setNew ?_ tG _ | with_reducible refine Fr.alloc ?_ _)
                case measure => simp [intOf]; omega
              · obtain rfl : gv = 0 := by omega
                clear hgz
                have dgA := ints_at (hG.alloc (.cells #[.int .i64 24, .int .i64 11, .int .i64 0, .int .i64 0, .int .i64 0, .int .u64 0, .int .u64 0, .int .u64 0, .int .u64 0, .int .u64 0, .int .u64 0, .int .i64 0, .int .i64 0] 54)) hgv
                go_wp2_with fail
                go_meet
                exact ⟨rfl, HH.alloc (.cells #[.int .i64 90, .int .i64 11, .int .i64 0, .int .i64 0, .int .i64 0, .int .u64 0, .int .u64 0, .int .u64 0, .int .u64 0, .int .u64 0, .int .u64 0, .int .i64 0, .int .i64 0] 54), hM.alloc (.cells #[.int .i64 90, .int .i64 11, .int .i64 0, .int .i64 0, .int .i64 0, .int .u64 0, .int .u64 0, .int .u64 0, .int .u64 0, .int .u64 0, .int .u64 0, .int .i64 0, .int .i64 0] 54), hG.alloc (.cells #[.int .i64 90, .int .i64 11, .int .i64 0, .int .i64 0, .int .i64 0, .int .u64 0, .int .u64 0, .int .u64 0, .int .u64 0, .int .u64 0, .int .u64 0, .int .i64 0, .int .i64 0] 54), hX.alloc (.cells #[.int .i64 90, .int .i64 11, .int .i64 0, .int .i64 0, .int .i64 0, .int .u64 0, .int .u64 0, .int .u64 0, .int .u64 0, .int .u64 0, .int .u64 0, .int .i64 0, .int .i64 0] 54), hW.alloc (.cells #[.int .i64 90, .int .i64 11, .int .i64 0, .int .i64 0, .int .i64 0, .int .u64 0, .int .u64 0, .int .u64 0, .int .u64 0, .int .u64 0, .int .u64 0, .int .i64 0, .int .i64 0] 54), Blk.new wr [.int .i64 90, .int .i64 11, .int .i64 0, .int .i64 0, .int .i64 0, .int .u64 0, .int .u64 0, .int .u64 0, .int .u64 0, .int .u64 0, .int .u64 0, .int .i64 0, .int .i64 0] 54, hrl, hrb, hFF.alloc (.cells #[.int .i64 90, .int .i64 11, .int .i64 0, .int .i64 0, .int .i64 0, .int .u64 0, .int .u64 0, .int .u64 0, .int .u64 0, .int .u64 0, .int .u64 0, .int .i64 0, .int .i64 0] 54)⟩
            · have b0 : (ln == 0) = false := beq_eq_false_iff_ne.2 h0
              have b24 : (ln == 24) = false := beq_eq_false_iff_ne.2 h24
              have hfr : gkFrom ln = ln := by unfold gkFrom; rw [if_neg h0, if_neg h24]
              clear h0 h24 hgb hg
              go_wp2_with fail
              go_meet
              exact ⟨rfl, HH.alloc (.cells #[.int .i64 ln, .int .i64 11, .int .i64 0, .int .i64 0, .int .i64 0, .int .u64 0, .int .u64 0, .int .u64 0, .int .u64 0, .int .u64 0, .int .u64 0, .int .i64 0, .int .i64 0] 54), hM.alloc (.cells #[.int .i64 ln, .int .i64 11, .int .i64 0, .int .i64 0, .int .i64 0, .int .u64 0, .int .u64 0, .int .u64 0, .int .u64 0, .int .u64 0, .int .u64 0, .int .i64 0, .int .i64 0] 54), hG.alloc (.cells #[.int .i64 ln, .int .i64 11, .int .i64 0, .int .i64 0, .int .i64 0, .int .u64 0, .int .u64 0, .int .u64 0, .int .u64 0, .int .u64 0, .int .u64 0, .int .i64 0, .int .i64 0] 54), hX.alloc (.cells #[.int .i64 ln, .int .i64 11, .int .i64 0, .int .i64 0, .int .i64 0, .int .u64 0, .int .u64 0, .int .u64 0, .int .u64 0, .int .u64 0, .int .u64 0, .int .i64 0, .int .i64 0] 54), hW.alloc (.cells #[.int .i64 ln, .int .i64 11, .int .i64 0, .int .i64 0, .int .i64 0, .int .u64 0, .int .u64 0, .int .u64 0, .int .u64 0, .int .u64 0, .int .u64 0, .int .i64 0, .int .i64 0] 54), (by rw [hfr]; exact Blk.new wr [.int .i64 ln, .int .i64 11, .int .i64 0, .int .i64 0, .int .i64 0, .int .u64 0, .int .u64 0, .int .u64 0, .int .u64 0, .int .u64 0, .int .u64 0, .int .i64 0, .int .i64 0] 54), hrl, hrb, hFF.alloc (.cells #[.int .i64 ln, .int .i64 11, .int .i64 0, .int .i64 0, .int .i64 0, .int .u64 0, .int .u64 0, .int .u64 0, .int .u64 0, .int .u64 0, .int .u64 0, .int .i64 0, .int .i64 0] 54)⟩
        case rest =>
          clear HH hM hG hX hW hrl hrb hFF g0 g1 g2 g3 g4 g5 g6 g7 g8 g9 g10 g11 g12 ny1 ny2 ny3 dMY dGY dGY2 dXY dWY tY
          obtain ⟨rfl, HH, hM, hG, hX, hW, hY, hrl, hrb, hFF⟩ := hcut
          have HX0 := fun (W : World) (H : HAt W h ab db s) => gate_any H m (mv (gkFrom ln) 11)
          rw [t1, t2] at HX0
          obtain ⟨s2, hs2⟩ : ∃ z, z = (gateM s m (mv (gkFrom ln) 11)).s := ⟨_, rfl⟩
          obtain ⟨nl, hnl⟩ : ∃ z, z = gkNext (if shutB l = true then 1 else 0) (gkFrom ln) := ⟨_, rfl⟩
          obtain ⟨f, hf⟩ : ∃ z, z = gkFrom ln := ⟨_, rfl⟩
          rw [← hs2, ← hnl] at HX0 t3
          rw [← hf] at HX0 hY
          clear hs2 hnl hf t1 t2 hw hmk2 hg hq
          have HX : ∀ (W : World) (H : HAt W h ab db s), Calls Try.prog 41 #[.pointer (some ⟨h, 0, none⟩), .int .i64 (m : Int), .agg #[.int .i64 f, .int .i64 11, .int .i64 0, .int .i64 0, .int .i64 0, .int .u64 0, .int .u64 0, .int .u64 0, .int .u64 0, .int .u64 0, .int .u64 0, .int .i64 0, .int .i64 0]] W fun e w' => e = .returned (.tuple #[.agg #[.int .i64 nl, .int .i64 11, .int .i64 0, .int .i64 0, .int .i64 0, .int .u64 0, .int .u64 0, .int .u64 0, .int .u64 0, .int .u64 0, .int .u64 0, .int .i64 0, .int .i64 0], .bool true]) ∧ HAt w' h ab db s2 ∧ Fr [h, db] W w' := HX0
          clear HX0
          replace HX := hid HX
          replace t3 := hid t3
          have kY := hY.cell
          go_upto_if 166 with (first | (go_at_call 41; refine (HX.out _ HH).mono ?_; rintro e w8 ⟨rfl, HH, hF2⟩; (replace hX := hX.kept hF2 nX); (replace hM := hM.kept hF2 nM); (replace hG := hG.kept hF2 nG); (replace hW := hW.kept hF2 nWb); (replace hFF := hFF.trans_new hF2 hSS); (have kY8 := (Blk.new w8 [.int .i64 nl, .int .i64 11, .int .i64 0, .int .i64 0, .int .i64 0, .int .u64 0, .int .u64 0, .int .u64 0, .int .u64 0, .int .u64 0, .int .u64 0, .int .i64 0, .int .i64 0] 54).cell)))
          have lM8 := hM.lt
          have lG8 := hG.lt
          have lW8 := hW.lt
          have lX8 := hX.lt
          have sF8 := hFF.size
          have hBY : BkY k h ab db M G X Wb w8.heap.size w (w8.alloc (.cells #[.int .i64 nl, .int .i64 11, .int .i64 0, .int .i64 0, .int .i64 0, .int .u64 0, .int .u64 0, .int .u64 0, .int .u64 0, .int .u64 0, .int .u64 0, .int .i64 0, .int .i64 0] 54)) s2 A l mm a rs [.int .i64 nl, .int .i64 11, .int .i64 0, .int .i64 0, .int .i64 0, .int .u64 0, .int .u64 0, .int .u64 0, .int .u64 0, .int .u64 0, .int .u64 0, .int .i64 0, .int .i64 0] := ⟨HH.alloc (.cells #[.int .i64 nl, .int .i64 11, .int .i64 0, .int .i64 0, .int .i64 0, .int .u64 0, .int .u64 0, .int .u64 0, .int .u64 0, .int .u64 0, .int .u64 0, .int .i64 0, .int .i64 0] 54), hM.alloc (.cells #[.int .i64 nl, .int .i64 11, .int .i64 0, .int .i64 0, .int .i64 0, .int .u64 0, .int .u64 0, .int .u64 0, .int .u64 0, .int .u64 0, .int .u64 0, .int .i64 0, .int .i64 0] 54), hG.alloc (.cells #[.int .i64 nl, .int .i64 11, .int .i64 0, .int .i64 0, .int .i64 0, .int .u64 0, .int .u64 0, .int .u64 0, .int .u64 0, .int .u64 0, .int .u64 0, .int .i64 0, .int .i64 0] 54), hX.alloc (.cells #[.int .i64 nl, .int .i64 11, .int .i64 0, .int .i64 0, .int .i64 0, .int .u64 0, .int .u64 0, .int .u64 0, .int .u64 0, .int .u64 0, .int .u64 0, .int .i64 0, .int .i64 0] 54), hW.alloc (.cells #[.int .i64 nl, .int .i64 11, .int .i64 0, .int .i64 0, .int .i64 0, .int .u64 0, .int .u64 0, .int .u64 0, .int .u64 0, .int .u64 0, .int .u64 0, .int .i64 0, .int .i64 0] 54), Blk.new w8 [.int .i64 nl, .int .i64 11, .int .i64 0, .int .i64 0, .int .i64 0, .int .u64 0, .int .u64 0, .int .u64 0, .int .u64 0, .int .u64 0, .int .u64 0, .int .i64 0, .int .i64 0] 54, hrl, hrb, hFF.alloc (.cells #[.int .i64 nl, .int .i64 11, .int .i64 0, .int .i64 0, .int .i64 0, .int .u64 0, .int .u64 0, .int .u64 0, .int .u64 0, .int .u64 0, .int .u64 0, .int .i64 0, .int .i64 0] 54)⟩
          obtain ⟨Y, hYe⟩ : ∃ Y, Y = w8.heap.size := ⟨_, rfl⟩
          obtain ⟨W8, hW8⟩ : ∃ W8, W8 = w8.alloc (.cells #[.int .i64 nl, .int .i64 11, .int .i64 0, .int .i64 0, .int .i64 0, .int .u64 0, .int .u64 0, .int .u64 0, .int .u64 0, .int .u64 0, .int .u64 0, .int .i64 0, .int .i64 0] 54) := ⟨_, rfl⟩
          have dMY : M ≠ Y := by omega
          have dGY : G ≠ Y := by omega
          have dXY : X ≠ Y := by omega
          have dWY : Wb ≠ Y := by omega
          have tY : w.heap.size ≤ Y := by omega
          rw [← hYe, ← hW8] at hBY
          rw [← hYe, ← hW8]
          clear HH hM hG hX hW hFF kY8 hYe hW8 lM8 lG8 lW8 lX8 sF8
          go_cut [] from 164 to 172 (fun wx => ∃ rs, BkY k h ab db M G X Wb Y w wx s2 A l mm a rs [.int .i64 nl, .int .i64 11, .int .i64 0, .int .i64 0, .int .i64 0, .int .u64 0, .int .u64 0, .int .u64 0, .int .u64 0, .int .u64 0, .int .u64 0, .int .i64 0, .int .i64 0])
          case first =>
            obtain ⟨HH, hM, hG, hX, hW, hY, hrl, hrb, hFF⟩ := hBY
            by_cases e24 : nl = 24
            · have c24 : (nl == 24) = true := by simp [e24]
              clear e24
              obtain ⟨gv, hgv⟩ : ∃ gv, rs[m]? = some gv := ⟨rs[m]'(by omega), List.getElem?_eq_getElem (by omega)⟩
              have dg := ints_at hG hgv
              have fG := hG.free
              go_wp2_with fail
              go_meet
              exact ⟨rs.set m sr, HH.other (p := ⟨G, m, none⟩) ng1 ng2 ng3 _, hM.other (p := ⟨G, m, none⟩) dMG _, ints_set hG m sr, hX.other (p := ⟨G, m, none⟩) dXG _, hW.other (p := ⟨G, m, none⟩) dWbG _, hY.other (p := ⟨G, m, none⟩) (Ne.symm dGY) _, by rw [List.length_set]; exact hrl, rb_set hrb hsr1, hFF.setNew (p := ⟨G, m, none⟩) tG _⟩
            · have c24 : (nl == 24) = false := beq_eq_false_iff_ne.2 e24
              clear e24
              go_wp2_with fail
              go_meet
              exact ⟨rs, HH, hM, hG, hX, hW, hY, hrl, hrb, hFF⟩
          case rest =>
            obtain ⟨rs, hBY⟩ := hcut
            go_upto_region 42 with fail
            go_cut [180] from 173 to 179 (fun z wx => (∃ b : Bool, z = .bool b) ∧ BkY k h ab db M G X Wb Y w wx s2 A l mm a rs [.int .i64 nl, .int .i64 11, .int .i64 0, .int .i64 0, .int .i64 0, .int .u64 0, .int .u64 0, .int .u64 0, .int .u64 0, .int .u64 0, .int .u64 0, .int .i64 0, .int .i64 0])
            case first =>
              have kY := hBY.Y.cell
              by_cases e4 : nl = 4
              · have c4 : (nl != 4) = false := by simp [e4]
                clear e4
                go_wp2_with fail
                go_meet
                exact ⟨⟨_, rfl⟩, hBY⟩
              · have c4 : (nl != 4) = true := bne_iff_ne.2 e4
                clear e4
                go_wp2_with fail
                go_meet
                exact ⟨⟨_, rfl⟩, hBY⟩
            case rest =>
              obtain ⟨⟨b, rfl⟩, hBY⟩ := hcut
              go_upto_if 180 with fail
              go_cut [] from 180 to 183 (fun wx => BkY k h ab db M G X Wb Y w wx s2 A l mm a rs [.int .i64 nl, .int .i64 11, .int .i64 0, .int .i64 0, .int .i64 0, .int .u64 0, .int .u64 0, .int .u64 0, .int .u64 0, .int .u64 0, .int .u64 0, .int .i64 0, .int .i64 0])
              case first =>
                obtain ⟨HH, hM, hG, hX, hW, hY, hrl, hrb, hFF⟩ := hBY
                cases b with
                | false =>
                  go_wp2_with fail
                  go_meet
                  exact ⟨HH, hM, hG, hX, hW, hY, hrl, hrb, hFF⟩
                | true =>
                  have dw := ints_at hW (zero_at hm3)
                  have fW := hW.free
                  go_wp2_with fail
                  go_meet
                  exact ⟨HH.other (p := ⟨Wb, m, none⟩) nw1 nw2 nw3 _, hM.other (p := ⟨Wb, m, none⟩) dMWb _, hG.other (p := ⟨Wb, m, none⟩) dGWb _, hX.other (p := ⟨Wb, m, none⟩) dXWb _, (by have h9 := ints_set hW m 0; rw [rep_set] at h9; exact h9), hY.other (p := ⟨Wb, m, none⟩) (Ne.symm dWY) _, hrl, hrb, hFF.setNew (p := ⟨Wb, m, none⟩) tWb _⟩
              case rest =>
                obtain ⟨HH, hM, hG, hX, hW, hY, hrl, hrb, hFF⟩ := hcut
                clear hBY
                have kY := hY.cell
                have fM8 := hM.free
                obtain ⟨g0, g1, g2, g3, g4, g5, g6, g7, g8, g9, g10, g11, g12⟩ := hM.atmv hA
                have HH2 := HH.oth13 nm1 nm2 nm3 (m * 13) (.int .i64 nl) (.int .i64 11) (.int .i64 0) (.int .i64 0) (.int .i64 0) (.int .u64 0) (.int .u64 0) (.int .u64 0) (.int .u64 0) (.int .u64 0) (.int .u64 0) (.int .i64 0) (.int .i64 0)
                have hM2 := hM.set13 hmA (mv nl 11)
                have hG2 := hG.oth13 dGM (m * 13) (.int .i64 nl) (.int .i64 11) (.int .i64 0) (.int .i64 0) (.int .i64 0) (.int .u64 0) (.int .u64 0) (.int .u64 0) (.int .u64 0) (.int .u64 0) (.int .u64 0) (.int .i64 0) (.int .i64 0)
                have hX2 := hX.oth13 dXM (m * 13) (.int .i64 nl) (.int .i64 11) (.int .i64 0) (.int .i64 0) (.int .i64 0) (.int .u64 0) (.int .u64 0) (.int .u64 0) (.int .u64 0) (.int .u64 0) (.int .u64 0) (.int .i64 0) (.int .i64 0)
                have hW2 := hW.oth13 dWbM (m * 13) (.int .i64 nl) (.int .i64 11) (.int .i64 0) (.int .i64 0) (.int .i64 0) (.int .u64 0) (.int .u64 0) (.int .u64 0) (.int .u64 0) (.int .u64 0) (.int .u64 0) (.int .i64 0) (.int .i64 0)
                have hFF2 := hFF.set13 tM (m * 13) (.int .i64 nl) (.int .i64 11) (.int .i64 0) (.int .i64 0) (.int .i64 0) (.int .u64 0) (.int .u64 0) (.int .u64 0) (.int .u64 0) (.int .u64 0) (.int .u64 0) (.int .i64 0) (.int .i64 0)
                go_wp2_with fail
                go_meet
                exact ⟨s2, _, l, mm, a, rs, t3.out, HH2, hM2, hG2, hX2, hW2, hrl, hrb, hFF2⟩
    case rest =>
      obtain ⟨s, A, l, mm, a, rs, hB⟩ := hcut
      clear hB1
      go_wp2_with fail
      go_loopw [23] (fun i wr => ∃ jj : Nat, jj ≤ k ∧ i = .int .i64 jj ∧ BkM k h ab db M G X Wb w wr s A l mm a rs) (fun i _ => k - (intOf i).toNat)
      case atStart => exact ⟨0, by omega, rfl, hB⟩
      case round =>
        clear hB
        obtain ⟨jj, hjj, rfl, hB⟩ := hrel
        by_cases hjk : jj < k
        case neg =>
          obtain rfl : jj = k := by omega
          go_wp2_with fail
          go_roundw
          case rel => exact ⟨j + 1, s, A, l, mm, a, rs, by omega, by go_num, hB⟩
          case measure => simp [intOf]; omega
        have hjk2 : (jj : Int) < (k : Int) := by omega
        have hbk := hB.bk
        have dW := ints_at hB.W (zero_at hjk)
        have hXc : Blk wr X 81 [.int .i64 l, .int .i64 0, .int .i64 0, .int .i64 mm, .int .u64 a, .int .u64 0, .bool false, .int .i64 0, .int .i64 0] := hB.X
        have kX := hXc.cell
        by_cases h13 : l = 13 ∨ l = 14
        · obtain ⟨ln, q, hA, hq, hg, hw⟩ := hbk.gk.at hjk
          have hin := hbk.out13 h13 jj hjk
          rw [lineOf_get hA] at hin
          have hib : insideB ln = false := by
            unfold insideB
            unfold insL at hin
            simp only [Bool.or_eq_false_iff, beq_eq_false_iff_ne, decide_eq_false_iff_not]
            omega
          obtain ⟨g0, g1, g2, g3, g4, g5, g6, g7, g8, g9, g10, g11, g12⟩ := hB.M.atmv hA
          have b13 : decide (13 ≤ l) = true := by simp; omega
          have b15 : decide (l ≤ 15) = true := by simp; omega
          have HIn := fun W => inside_any ln q 0 0 0 0 0 0 0 0 0 0 0 W
          rw [hib] at HIn
          replace HIn := hid HIn
          clear h13 hbk hq hg hw hin hib
          go_wp2_with (first | (go_at_call 42; refine (HIn.out _).mono ?_; rintro e w9 ⟨rfl, hF2⟩; (replace hB := hB.kept hF2)))
          go_roundw
          case rel => exact ⟨jj + 1, by omega, by go_num, hB⟩
          case measure => simp [intOf]; omega
        · have hl := hbk.line
          by_cases hl20 : l = 20 ∨ l = 16
          · have b13 : decide (13 ≤ l) = true := by simp; omega
            have b15 : decide (l ≤ 15) = false := by simp; omega
            clear hbk hl h13 hl20
            go_wp2_with fail
            go_roundw
            case rel => exact ⟨jj + 1, by omega, by go_num, hB⟩
            case measure => simp [intOf]; omega
          · have b13 : decide (13 ≤ l) = false := by simp; omega
            clear hbk hl h13 hl20
            go_wp2_with fail
            go_roundw
            case rel => exact ⟨jj + 1, by omega, by go_num, hB⟩
            case measure => simp [intOf]; omega

end Go.Proofs.Ytolkgdchinaonaa
