/- mudlarklaw17.BarOpens: the walk. -/
import Derived.Test.YtolkgdchinaonaaGoLaw
import Derived.Test.YtolkgdchinaonaaBarOP
import Derived.Test.YtolkgdchinaonaaAwake17
import Derived.Test.YtolkgdchinaonaaBaAny
import Derived.Test.YtolkgdchinaonaaGateLaw
import Derived.Test.YtolkgdchinaonaaCBox
namespace Go.Proofs.Ytolkgdchinaonaa
open Go.RowKit
set_option linter.unusedVariables false
set_option linter.unusedSimpArgs false

def cCs (x : ColV) : List Value := [.int .i64 x.line, .int .i64 x.j, .int .i64 x.c, .int .i64 x.m, .int .u64 x.a, .int .u64 x.p, .bool x.found, .int .i64 x.tail, .int .i64 x.cyc]
theorem bc_wf {l m a : Int} {k : Nat} {s : HS} {A : List MutV} (hk : k ≤ 6) (h : BkAt k s A l m a) : (bc l m a).Wf ∧ (bc l m a).Near := by
  have h1 := h.line
  have h2 := h.ab
  have h3 := h.cm
  exact ⟨by constructor <;> simp only [bc] <;> omega, by constructor <;> simp only [bc] <;> omega⟩
set_option maxRecDepth 100000 in
set_option maxHeartbeats 8000000 in
theorem barOpens_any (n f : Int) (hn : 0 ≤ n ∧ n ≤ 255) (hf : 0 ≤ f ∧ f ≤ 255) (w : World) :
    Calls Try.prog 10 #[.int .u8 n, .int .u8 f] w fun e w' => e = .returned (.bool true) ∧ Fr [] w w' := by
  obtain ⟨k, hk⟩ : ∃ k : Nat, (k : Int) = 1 + n % 5 := ⟨(1 + n % 5).toNat, by omega⟩
  have hk1 : 1 ≤ k := by omega
  have hk5 : k ≤ 5 := by omega
  have hkw : 1 + n % 5 = (k : Int) := hk.symm
  obtain ⟨F, rfl⟩ : ∃ F : Nat, f = F := ⟨f.toNat, by omega⟩
  have hF : F ≤ 255 := by omega
  have hF2 : (F : Int) ≤ 255 := by omega
  have HN := hid (fun W => newK_go hk1 (by omega) W)
  have hn0 := hn.1
  have hn1 := hn.2
  replace hk := hid hk
  obtain ⟨R, hR⟩ : ∃ R : Nat → BoS, R = fun r => boRuns k F r (boFirst k) := ⟨_, rfl⟩
  obtain ⟨RR, hRR⟩ : ∃ RR : Nat → Nat → BoS, RR = fun r i => boRound k F r i (R r) := ⟨_, rfl⟩
  have hRR0 := hid (show ∀ r, RR r 0 = R r by intro r; rw [hRR]; rfl)
  have hRs := hid (show ∀ r, R (r + 1) = RR r (k + 1) by intro r; rw [hRR, hR]; rfl)
  have hRRs := hid (show ∀ r i, RR r (i + 1) = boStep k ((i + r * F) % (k + 1)) (RR r i) by intro r i; rw [hRR]; rfl)
  have hR0 := hid (show R 0 = boFirst k by rw [hR]; rfl)
  have hI := hid (show ∀ r i, BoI k (r * (k + 1) + i) (RR r i) by intro r i; rw [hRR, hR]; exact (BoI.runs hk1 r).round i)
  have hEnd := hid (show (∀ g, g ∈ (R (60 + 40 * k)).got → 2 ≤ g) ∧ 1 ≤ (R (60 + 40 * k)).shut by rw [hR]; exact bo_ends F hk1 hk5)
  have hIR := hid (show ∀ r, BoI k (r * (k + 1)) (R r) by intro r; rw [hR]; exact BoI.runs hk1 r)
  clear hR hRR
  have HI := hid (fun (m : Nat) (hm : m < k) W => in_k hk1 (by omega) hm W)
  obtain ⟨A0, hA0⟩ : ∃ A, A = List.replicate k mutZ := ⟨_, rfl⟩
  obtain ⟨G0, hG0⟩ : ∃ G, G = List.replicate k (0 : Int) := ⟨_, rfl⟩
  have hmk := fun W => mkMuts W k (by omega)
  have hmi := fun W => mkInts W k (by omega)
  rw [← hA0] at hmk
  rw [← hG0] at hmi
  have hfA : Hid ((boFirst k).A = A0) := hid (by rw [hA0]; rfl)
  have hfG : Hid ((boFirst k).got = G0) := hid (by rw [hG0]; rfl)
  have hfx : Hid ((boFirst k).x = bc 10 0 0) := hid rfl
  have hfs : Hid ((boFirst k).s = ⟨⟨2, k, 1, 0⟩, firstW ⟨2, k, 1, 0⟩, Acc.z⟩) := hid rfl
  have hfh : Hid ((boFirst k).shut = 0) := hid rfl
  clear hA0 hG0
  go_enter Try.func10, Try.ntmps10
  go_wp2_with (first | (go_at_call 52; refine (awake17_any _).mono ?_; rintro e w2 ⟨rfl, hFF⟩) | (go_at_call 38; refine (HN.out _).mono ?_; rintro e w3 ⟨⟨h, ab, db, rfl, HH, q1, q2, q3⟩, hF2⟩; (have sF := hFF.size); (have zz1 := Nat.le_trans sF q1); (have zz2 := Nat.le_trans sF q2); (have zz3 := Nat.le_trans sF q3); (have hSS := fun i (m : i ∈ [h, db]) (l : i < w.heap.size) => (show i ∈ ([] : List Nat) by simp at m; omega)); (replace hFF := hFF.trans hF2); clear q1 q2 q3 sF))
  obtain ⟨M, hMe⟩ : ∃ M, M = w3.heap.size := ⟨_, rfl⟩
  have l1 := HH.blk.lt
  have l2 := HH.ar.dat.lt
  have l3 := HH.ar.hdr.lt
  have sF := hFF.size
  have hM := ((Blk.new w3 (mutsCs A0) 54).alloc (.cells (ints G0).toArray 3)).alloc (.cells #[.int .i64 10, .int .i64 0, .int .i64 0, .int .i64 0, .int .u64 0, .int .u64 0, .bool false, .int .i64 0, .int .i64 0] 81)
  have hG := (Blk.new (w3.alloc (.cells (mutsCs A0).toArray 54)) (ints G0) 3).alloc (.cells #[.int .i64 10, .int .i64 0, .int .i64 0, .int .i64 0, .int .u64 0, .int .u64 0, .bool false, .int .i64 0, .int .i64 0] 81)
  have hX := Blk.new ((w3.alloc (.cells (mutsCs A0).toArray 54)).alloc (.cells (ints G0).toArray 3)) [.int .i64 10, .int .i64 0, .int .i64 0, .int .i64 0, .int .u64 0, .int .u64 0, .bool false, .int .i64 0, .int .i64 0] 81
  replace hFF := ((hFF.alloc (.cells (mutsCs A0).toArray 54)).alloc (.cells (ints G0).toArray 3)).alloc (.cells #[.int .i64 10, .int .i64 0, .int .i64 0, .int .i64 0, .int .u64 0, .int .u64 0, .bool false, .int .i64 0, .int .i64 0] 81)
  replace HH := ((HH.alloc (.cells (mutsCs A0).toArray 54)).alloc (.cells (ints G0).toArray 3)).alloc (.cells #[.int .i64 10, .int .i64 0, .int .i64 0, .int .i64 0, .int .u64 0, .int .u64 0, .bool false, .int .i64 0, .int .i64 0] 81)
  simp only [World.size_alloc, Nat.add_assoc] at hG hX
  rw [← hMe] at hM hG hX
  try simp only [World.size_alloc, Nat.add_assoc]
  rw [← hMe]
  obtain ⟨G, hGe⟩ : ∃ G, G = M + 1 := ⟨_, rfl⟩
  obtain ⟨X, hXe⟩ : ∃ X, X = M + (1 + 1) := ⟨_, rfl⟩
  rw [← hGe] at hG ⊢
  rw [← hXe] at hX ⊢
  have nm1 : h ≠ M := by omega
  have nm2 : ab ≠ M := by omega
  have nm3 : db ≠ M := by omega
  have ng1 : h ≠ G := by omega
  have ng2 : ab ≠ G := by omega
  have ng3 : db ≠ G := by omega
  have nx1 : h ≠ X := by omega
  have nx2 : ab ≠ X := by omega
  have nx3 : db ≠ X := by omega
  have nM : M ∉ [h, db] := by simp; omega
  have nG : G ∉ [h, db] := by simp; omega
  have nX : X ∉ [h, db] := by simp; omega
  have dMG : M ≠ G := by omega
  have dMX : M ≠ X := by omega
  have dGX : G ≠ X := by omega
  have tM : w.heap.size ≤ M := by omega
  have tG : w.heap.size ≤ G := by omega
  have tX : w.heap.size ≤ X := by omega
  have BD : k ≤ 6 := by omega
  clear hMe hGe hXe l1 l2 l3 sF zz1 zz2 zz3 hmk hmi HN
  go_loopw [11, 12] (fun sh ir wr => ∃ (r : Nat), r ≤ 60 + 40 * k ∧ ir = .int .i64 r ∧ sh = .int .i64 (R r).shut ∧ HAt wr h ab db (R r).s ∧ Blk wr M 54 (mutsCs (R r).A) ∧ Blk wr G 3 (ints (R r).got) ∧ Blk wr X 81 (cCs (R r).x) ∧ Fr [] w wr) (fun _ i _ => 60 + 40 * k - (intOf i).toNat)
  case atStart =>
    refine ⟨0, by omega, rfl, ?_, ?_, ?_, ?_, ?_, hFF⟩
    · rw [hR0.out, hfh.out]
    · rw [hR0.out, hfs.out]; exact HH
    · rw [hR0.out, hfA.out]; exact hM
    · rw [hR0.out, hfG.out]; exact hG
    · rw [hR0.out, hfx.out]; exact hX
  case round =>
    clear HH hM hG hX hFF
    obtain ⟨r, hr, rfl, rfl, HH, hM, hG, hX, hFF⟩ := hrel
    have hI0 := (hIR.out r).sb
    have hrk : r * (k + 1) ≤ 260 * 6 := Nat.mul_le_mul (by omega) (by omega)
    by_cases hlt : r < 60 + 40 * k
    case neg =>
      obtain rfl : r = 60 + 40 * k := by omega
      obtain ⟨e1, e2⟩ := hEnd.out
      have hgl := (hIR.out (60 + 40 * k)).gl
      have hgb := (hIR.out (60 + 40 * k)).gb
      obtain ⟨st, hst⟩ : ∃ st, st = R (60 + 40 * k) := ⟨_, rfl⟩
      rw [← hst] at e1 e2 hgl hgb hG HH hM hX hI0 ⊢
      have hg2 := hid (fun (j : Nat) (hj : j < k) => (⟨st.got[j]'(by omega), List.getElem?_eq_getElem (by omega), e1 _ (List.getElem_mem _)⟩ : ∃ g, st.got[j]? = some g ∧ 2 ≤ g))
      have hsd : decide (1 ≤ st.shut) = true := by simpa using e2
      have hkk : ¬ (((60 + 40 * k : Nat) : Int) < 60 + 40 * (k : Int)) := by omega
      obtain ⟨rv, hrv⟩ : ∃ rv : Nat, rv = 60 + 40 * k := ⟨_, rfl⟩
      rw [← hrv]
      have hrl : 60 + 40 * (k : Int) ≤ (rv : Int) := by omega
      clear e1 e2 hgl hgb hst HH hM hX hI0 hkk hrk hrv hI hIR hEnd hRs hRRs hRR0 hR0 hr
      go_wp2_with fail
      go_loopw [16] (fun ij wr => ∃ j : Nat, j ≤ k ∧ ij = .int .i64 j ∧ Blk wr G 3 (ints st.got) ∧ Fr [] w wr) (fun i _ => k - (intOf i).toNat)
      case atStart => exact ⟨0, by omega, rfl, hG, hFF⟩
      case round =>
        clear hG hFF
        obtain ⟨j, hj, rfl, hG, hFF⟩ := hrel
        by_cases hjk : j < k
        · obtain ⟨gv, h1, h2⟩ := hg2.out j hjk
          have d1 := ints_at hG h1
          have d2 : decide (gv < 2) = false := by simp; omega
          have hjk2 : (j : Int) < (k : Int) := by omega
          clear h1 h2
          go_wp2_with fail
          go_roundw
          case rel => exact ⟨j + 1, by omega, by go_num, hG, hFF⟩
          case measure => simp [intOf]; omega
        · obtain rfl : j = k := by omega
          go_wp2_with fail
          go_ret
          first | exact ⟨rfl, hFF⟩ | exact ⟨by rw [hsd], hFF⟩
    have hlt2 : (r : Int) < 60 + 40 * (k : Int) := by omega
    rw [← hRR0.out r] at HH hM hG hX ⊢
    have hrr : (r : Int) ≤ 259 := by omega
    obtain ⟨Pn, hPn⟩ : ∃ P : Nat, P = r * F := ⟨_, rfl⟩
    have hPb : Pn ≤ 259 * 255 := by rw [hPn]; exact Nat.mul_le_mul (by omega) (by omega)
    have hPb2 : (Pn : Int) ≤ 66045 := by omega
    have hPw : (r : Int) * (F : Int) = (Pn : Int) := by rw [hPn]; exact (Int.natCast_mul r F).symm
    replace hPn := hid hPn
    have hrr0 : 0 ≤ r := Nat.zero_le r
    go_wp2_with fail
    go_loopw [11, 13] (fun sh ii wr => ∃ (i : Nat), i ≤ k + 1 ∧ ii = .int .i64 i ∧ sh = .int .i64 (RR r i).shut ∧ HAt wr h ab db (RR r i).s ∧ Blk wr M 54 (mutsCs (RR r i).A) ∧ Blk wr G 3 (ints (RR r i).got) ∧ Blk wr X 81 (cCs (RR r i).x) ∧ Fr [] w wr) (fun _ i _ => k + 1 - (intOf i).toNat)
    case atStart => exact ⟨0, by omega, rfl, rfl, HH, hM, hG, hX, hFF⟩
    case round =>
      clear HH hM hG hX hFF hI0
      obtain ⟨i, hi, rfl, rfl, HH, hM, hG, hX, hFF⟩ := hrel
      by_cases hik : i ≤ k
      case neg =>
        obtain rfl : i = k + 1 := by omega
        have hIb := (hI.out r (k + 1)).sb
        rw [← hRs.out r] at HH hM hG hX hIb ⊢
        have hki : ¬ (((k + 1 : Nat) : Int) ≤ (k : Int)) := by omega
        obtain ⟨kv, hkv⟩ : ∃ z : Nat, z = k + 1 := ⟨_, rfl⟩
        rw [← hkv]
        have hkl : (k : Int) < (kv : Int) := by omega
        clear hkv hki
        go_wp2_with fail
        go_roundw
        case rel => exact ⟨r + 1, by omega, by go_num, rfl, HH, hM, hG, hX, hFF⟩
        case measure => simp [intOf]; omega
      have hik2 : (i : Int) ≤ (k : Int) := by omega
      have hst := hI.out r i
      have hnx := hRRs.out r i
      rw [← hPn.out] at hnx
      obtain ⟨m, hm⟩ : ∃ m : Nat, m = (i + Pn) % (k + 1) := ⟨_, rfl⟩
      have hmk2 : m ≤ k := by have := Nat.mod_lt (i + Pn) (show 0 < k + 1 by omega); omega
      have hmw2 : ((i : Int) + (Pn : Int)) % ((k : Int) + 1) = (m : Int) := by rw [hm]; push_cast; rfl
      have hmw : Int.tmod ((i : Int) + (Pn : Int)) ((k : Int) + 1) = (m : Int) := by rw [Int.tmod_eq_emod_of_nonneg (by omega)]; exact hmw2
      have kne : ((k : Int) + 1 == 0) = false := beq_eq_false_iff_ne.2 (by omega)
      rw [← hm] at hnx
      replace hm := hid hm
      have hsb := hst.sb
      have hsb1 : (RR r i).shut ≤ 10000 := by have h9 := hsb.2; omega
      have hsb0 := hsb.1
      obtain ⟨st, hste⟩ : ∃ st, st = RR r i := ⟨_, rfl⟩
      rw [← hste] at HH hM hG hX hst hnx hsb0 hsb1 ⊢
      obtain ⟨nx, hnxe⟩ : ∃ nx, nx = RR r (i + 1) := ⟨_, rfl⟩
      rw [← hnxe] at hnx
      have hnxi := hI.out r (i + 1)
      rw [← hnxe] at hnxi
      clear hste hsb
      unfold boStep at hnx
      by_cases hmk3 : m = k
      · rw [if_pos hmk3] at hnx
        obtain ⟨⟨l, mm, a, hx, hb⟩, _, _, _⟩ := hst
        obtain ⟨⟨l', m', a', hx', hb'⟩, _, _, _⟩ := hnxi
        have hmkb : ((m : Int) == (k : Int)) = true := by simp [hmk3]
        have hcc := hid hb.gk.cfg
        obtain ⟨s, A, got, x, shut⟩ := st
        simp only at HH hM hG hX hnx hx hb hsb0 hsb1 hcc ⊢
        subst hx
        have hl := hb.line
        unfold boCol at hnx
        by_cases hl20 : l = 20
        · rw [if_pos (.inr hl20)] at hnx
          subst hl20
          replace hnx : nx = ⟨(barM s (bc 10 0 a)).s, A, got, (barM s (bc 10 0 a)).x, shut + 1⟩ := hnx
          have hb2 := hb.anew
          obtain ⟨wf, nr⟩ := bc_wf BD hb2
          have hc1 := (hb2.col (by omega)).1
          have HX0 := fun (W : World) (H : HAt W h ab db s) => ba_any H (bc 10 0 a) wf nr
          rw [hc1] at HX0
          obtain ⟨s2, hs2⟩ : ∃ z, z = (barM s (bc 10 0 a)).s := ⟨_, rfl⟩
          obtain ⟨y, hy⟩ : ∃ z, z = (barM s (bc 10 0 a)).x := ⟨_, rfl⟩
          obtain ⟨fl, hfl⟩ : ∃ z, z = (barM s (bc 10 0 a)).flip := ⟨_, rfl⟩
          rw [← hs2, ← hy] at HX0 hnx
          rw [← hfl] at HX0
          clear hs2 hfl hc1 wf nr
          rw [hnx] at hx'
          simp only at hx'
          subst hx'
          have HX : ∀ (W : World) (H : HAt W h ab db s), Calls Try.prog 53 #[.pointer (some ⟨h, 0, none⟩), .agg #[.int .i64 10, .int .i64 0, .int .i64 0, .int .i64 0, .int .u64 a, .int .u64 0, .bool false, .int .i64 0, .int .i64 0]] W fun e w' => e = .returned (.tuple #[.agg #[.int .i64 l', .int .i64 0, .int .i64 0, .int .i64 m', .int .u64 a', .int .u64 0, .bool false, .int .i64 0, .int .i64 0], .bool fl, .bool true]) ∧ HAt w' h ab db s2 ∧ Fr [h, db] W w' := HX0
          clear HX0
          replace HX := hid HX
          have hXc : Blk wr X 81 [.int .i64 20, .int .i64 0, .int .i64 0, .int .i64 mm, .int .u64 a, .int .u64 0, .bool false, .int .i64 0, .int .i64 0] := hX
          clear hX
          have kX := hXc.cell
          have fX := hXc.free
          go_wp2_with (first | (go_at_call 53; (replace hXc := (hXc.set 0 (.int .i64 10)).set 3 (.int .i64 0)); (replace HH := (HH.other (p := ⟨X, 0, none⟩) nx1 nx2 nx3 (.int .i64 10)).other (p := ⟨X, 3, none⟩) nx1 nx2 nx3 (.int .i64 0)); (replace hM := (hM.other (p := ⟨X, 0, none⟩) dMX (.int .i64 10)).other (p := ⟨X, 3, none⟩) dMX (.int .i64 0)); (replace hG := (hG.other (p := ⟨X, 0, none⟩) dGX (.int .i64 10)).other (p := ⟨X, 3, none⟩) dGX (.int .i64 0)); (replace hFF := (hFF.setNew (p := ⟨X, 0, none⟩) tX (.int .i64 10)).setNew (p := ⟨X, 3, none⟩) tX (.int .i64 0)); refine (HX.out _ HH).mono ?_; rintro e w8 ⟨rfl, HH, hF2⟩; (replace hXc := hXc.kept hF2 nX); (replace hM := hM.kept hF2 nM); (replace hG := hG.kept hF2 nG); (replace hFF := hFF.trans_new hF2 hSS); (have kX := hXc.cell); (have fX := hXc.free)))
          replace hXc := hXc.set9 (.int .i64 l') (.int .i64 0) (.int .i64 0) (.int .i64 m') (.int .u64 a') (.int .u64 0) (.bool false) (.int .i64 0) (.int .i64 0)
          go_roundw
          case rel =>
            refine ⟨i + 1, by omega, by go_num, ?_, ?_, ?_, ?_, ?_, ?_⟩
            · rw [← hnxe, hnx]
            · rw [← hnxe, hnx]; repeat (first | with_reducible exact HH | with_reducible refine HAt.other ?_ nx1 nx2 nx3 _)
            · rw [← hnxe, hnx]; repeat (first | with_reducible exact hM | with_reducible refine Blk.other ?_ dMX _)
            · rw [← hnxe, hnx]; repeat (first | with_reducible exact hG | with_reducible refine Blk.other ?_ dGX _)
            · rw [← hnxe, hnx]; exact hXc
            · repeat (first | with_reducible exact hFF | with_reducible refine Fr.setNew ?_ tX _)
          case measure => simp [intOf]; omega
        · have hl3 : l ≠ 3 := by omega
          rw [if_neg (fun e => e.elim hl3 hl20)] at hnx
          obtain ⟨wf, nr⟩ := bc_wf BD hb
          have hc1 := (hb.col hl20).1
          have HX0 := fun (W : World) (H : HAt W h ab db s) => ba_any H (bc l mm a) wf nr
          rw [hc1] at HX0
          have b3 : (l == 3) = false := beq_eq_false_iff_ne.2 hl3
          have b20 : (l == 20) = false := beq_eq_false_iff_ne.2 hl20
          obtain ⟨s2, hs2⟩ : ∃ z, z = (barM s (bc l mm a)).s := ⟨_, rfl⟩
          obtain ⟨y, hy⟩ : ∃ z, z = (barM s (bc l mm a)).x := ⟨_, rfl⟩
          obtain ⟨fl, hfl⟩ : ∃ z, z = (barM s (bc l mm a)).flip := ⟨_, rfl⟩
          rw [← hs2, ← hy] at HX0 hnx
          rw [← hfl] at HX0
          clear hs2 hfl hc1 wf nr
          rw [hnx] at hx'
          simp only at hx'
          subst hx'
          have HX : ∀ (W : World) (H : HAt W h ab db s), Calls Try.prog 53 #[.pointer (some ⟨h, 0, none⟩), .agg #[.int .i64 l, .int .i64 0, .int .i64 0, .int .i64 mm, .int .u64 a, .int .u64 0, .bool false, .int .i64 0, .int .i64 0]] W fun e w' => e = .returned (.tuple #[.agg #[.int .i64 l', .int .i64 0, .int .i64 0, .int .i64 m', .int .u64 a', .int .u64 0, .bool false, .int .i64 0, .int .i64 0], .bool fl, .bool true]) ∧ HAt w' h ab db s2 ∧ Fr [h, db] W w' := HX0
          clear HX0
          replace HX := hid HX
          have hXc : Blk wr X 81 [.int .i64 l, .int .i64 0, .int .i64 0, .int .i64 mm, .int .u64 a, .int .u64 0, .bool false, .int .i64 0, .int .i64 0] := hX
          clear hX
          have kX := hXc.cell
          have fX := hXc.free
          go_wp2_with (first | (go_at_call 53; refine (HX.out _ HH).mono ?_; rintro e w8 ⟨rfl, HH, hF2⟩; (replace hXc := hXc.kept hF2 nX); (replace hM := hM.kept hF2 nM); (replace hG := hG.kept hF2 nG); (replace hFF := hFF.trans_new hF2 hSS); (have kX := hXc.cell); (have fX := hXc.free)))
          replace hXc := hXc.set9 (.int .i64 l') (.int .i64 0) (.int .i64 0) (.int .i64 m') (.int .u64 a') (.int .u64 0) (.bool false) (.int .i64 0) (.int .i64 0)
          go_roundw
          case rel =>
            refine ⟨i + 1, by omega, by go_num, ?_, ?_, ?_, ?_, ?_, ?_⟩
            · rw [← hnxe, hnx]
            · rw [← hnxe, hnx]; repeat (first | with_reducible exact HH | with_reducible refine HAt.other ?_ nx1 nx2 nx3 _)
            · rw [← hnxe, hnx]; repeat (first | with_reducible exact hM | with_reducible refine Blk.other ?_ dMX _)
            · rw [← hnxe, hnx]; repeat (first | with_reducible exact hG | with_reducible refine Blk.other ?_ dGX _)
            · rw [← hnxe, hnx]; exact hXc
            · repeat (first | with_reducible exact hFF | with_reducible refine Fr.setNew ?_ tX _)
          case measure => simp [intOf]; omega
      · rw [if_neg hmk3] at hnx
        have hm3 : m < k := by omega
        have hmi : (m : Int) < (k : Int) := by omega
        have hmkb : ((m : Int) == (k : Int)) = false := beq_eq_false_iff_ne.2 (by omega)
        obtain ⟨ln, q, gv, hA, hq, hg, hw, hgv, hgv0, hgv1, heq⟩ := boMut_eq hst hm3
        obtain ⟨⟨l, mm, a, hx, hb⟩, hgl, _, _⟩ := hst
        obtain ⟨t1, t2, t3⟩ := hb.mut hm3 hA hg hw
        have hmA : m < st.A.length := by rw [hb.gk.lenA]; exact hm3
        rw [heq, t2] at hnx
        have HX0 := fun (W : World) (H : HAt W h ab db st.s) => gate_any H m (mv (gkFrom ln) 11)
        rw [t1, t2] at HX0
        obtain ⟨s2, hs2⟩ : ∃ z, z = (gateM st.s m (mv (gkFrom ln) 11)).s := ⟨_, rfl⟩
        obtain ⟨nl, hnl⟩ : ∃ z, z = gkNext (if shutB l = true then 1 else 0) (gkFrom ln) := ⟨_, rfl⟩
        rw [← hs2, ← hnl] at HX0 hnx
        clear hs2 hnl t1 t2 t3 hb hx heq hw hnxi hmk2 hmk3
        obtain ⟨s, A, got, x, shut⟩ := st
        simp only at HH hM hG hX hnx hA hmA hgl hgv hsb0 hsb1 HX0 ⊢
        have hgv2 : gv ≤ 100000 := by omega
        obtain ⟨g0, g1, g2, g3, g4, g5, g6, g7, g8, g9, g10, g11, g12⟩ := hM.atmv hA
        have dg := ints_at hG hgv
        by_cases h0 : ln = 0
        · subst h0
          rw [if_neg (by omega)] at hnx
          have HX : ∀ (W : World) (H : HAt W h ab db s), Calls Try.prog 41 #[.pointer (some ⟨h, 0, none⟩), .int .i64 (m : Int), .agg #[.int .i64 1, .int .i64 11, .int .i64 0, .int .i64 0, .int .i64 0, .int .u64 0, .int .u64 0, .int .u64 0, .int .u64 0, .int .u64 0, .int .u64 0, .int .i64 0, .int .i64 0]] W fun e w' => e = .returned (.tuple #[.agg #[.int .i64 nl, .int .i64 11, .int .i64 0, .int .i64 0, .int .i64 0, .int .u64 0, .int .u64 0, .int .u64 0, .int .u64 0, .int .u64 0, .int .u64 0, .int .i64 0, .int .i64 0], .bool true]) ∧ HAt w' h ab db s2 ∧ Fr [h, db] W w' := HX0
          clear HX0
          replace HX := hid HX
          have lh1 := HH.blk.lt
          have lh2 := HH.ar.hdr.lt
          have lh3 := HH.ar.dat.lt
          have lM := hM.lt
          have lG := hG.lt
          have lX := hX.lt
          have sF := hFF.size
          have ny1 : h ≠ wr.heap.size := by omega
          have ny2 : ab ≠ wr.heap.size := by omega
          have ny3 : db ≠ wr.heap.size := by omega
          have dMY : M ≠ wr.heap.size := by omega
          have dGY : G ≠ wr.heap.size := by omega
          have dGY2 : ¬ wr.heap.size = G := by omega
          have dXY : X ≠ wr.heap.size := by omega
          have tY : w.heap.size ≤ wr.heap.size := by omega
          have hY := Blk.new wr [.int .i64 0, .int .i64 q, .int .i64 0, .int .i64 0, .int .i64 0, .int .u64 0, .int .u64 0, .int .u64 0, .int .u64 0, .int .u64 0, .int .u64 0, .int .i64 0, .int .i64 0] 54
          have kY := hY.cell
          replace HH := HH.alloc (.cells #[.int .i64 0, .int .i64 q, .int .i64 0, .int .i64 0, .int .i64 0, .int .u64 0, .int .u64 0, .int .u64 0, .int .u64 0, .int .u64 0, .int .u64 0, .int .i64 0, .int .i64 0] 54)
          replace hM := hM.alloc (.cells #[.int .i64 0, .int .i64 q, .int .i64 0, .int .i64 0, .int .i64 0, .int .u64 0, .int .u64 0, .int .u64 0, .int .u64 0, .int .u64 0, .int .u64 0, .int .i64 0, .int .i64 0] 54)
          replace hG := hG.alloc (.cells #[.int .i64 0, .int .i64 q, .int .i64 0, .int .i64 0, .int .i64 0, .int .u64 0, .int .u64 0, .int .u64 0, .int .u64 0, .int .u64 0, .int .u64 0, .int .i64 0, .int .i64 0] 54)
          replace hX := hX.alloc (.cells #[.int .i64 0, .int .i64 q, .int .i64 0, .int .i64 0, .int .i64 0, .int .u64 0, .int .u64 0, .int .u64 0, .int .u64 0, .int .u64 0, .int .u64 0, .int .i64 0, .int .i64 0] 54)
          replace hFF := hFF.alloc (.cells #[.int .i64 0, .int .i64 q, .int .i64 0, .int .i64 0, .int .i64 0, .int .u64 0, .int .u64 0, .int .u64 0, .int .u64 0, .int .u64 0, .int .u64 0, .int .i64 0, .int .i64 0] 54)
          go_wp2_with (first | (go_at_call 40; refine (gbegin_any 11 0 0 0 _).mono ?_; rintro e w5 ⟨rfl, hF2⟩; (replace hY := hY.kept hF2 List.not_mem_nil); (replace kY := hY.cell); (have fY := hY.free); (replace HH := HH.kept0 hF2); (replace hM := hM.kept hF2 List.not_mem_nil); (replace hG := hG.kept hF2 List.not_mem_nil); (replace hX := hX.kept hF2 List.not_mem_nil); (replace hFF := hFF.trans hF2); (replace HH := HH.setM ny1 ny2 ny3 (.int .i64 1) (.int .i64 11) (.int .i64 0) (.int .i64 0) (.int .i64 0) (.int .u64 0) (.int .u64 0) (.int .u64 0) (.int .u64 0) (.int .u64 0) (.int .u64 0) (.int .i64 0) (.int .i64 0)); (replace hM := hM.othM dMY (.int .i64 1) (.int .i64 11) (.int .i64 0) (.int .i64 0) (.int .i64 0) (.int .u64 0) (.int .u64 0) (.int .u64 0) (.int .u64 0) (.int .u64 0) (.int .u64 0) (.int .i64 0) (.int .i64 0)); (replace hG := hG.othM dGY (.int .i64 1) (.int .i64 11) (.int .i64 0) (.int .i64 0) (.int .i64 0) (.int .u64 0) (.int .u64 0) (.int .u64 0) (.int .u64 0) (.int .u64 0) (.int .u64 0) (.int .i64 0) (.int .i64 0)); (replace hX := hX.othM dXY (.int .i64 1) (.int .i64 11) (.int .i64 0) (.int .i64 0) (.int .i64 0) (.int .u64 0) (.int .u64 0) (.int .u64 0) (.int .u64 0) (.int .u64 0) (.int .u64 0) (.int .i64 0) (.int .i64 0)); (replace hFF := hFF.setM tY (.int .i64 1) (.int .i64 11) (.int .i64 0) (.int .i64 0) (.int .i64 0) (.int .u64 0) (.int .u64 0) (.int .u64 0) (.int .u64 0) (.int .u64 0) (.int .u64 0) (.int .i64 0) (.int .i64 0))) | (go_at_call 41; refine (HX.out _ HH).mono ?_; rintro e w8 ⟨rfl, HH, hF2⟩; (replace hX := hX.kept hF2 nX); (replace hM := hM.kept hF2 nM); (replace hG := hG.kept hF2 nG); (replace hFF := hFF.trans_new hF2 hSS); (have fM8 := hM.free); (obtain ⟨z0, z1, z2, z3, z4, z5, z6, z7, z8, z9, z10, z11, z12⟩ := hM.atmv hA)))
          have hM2 := hM.set13 hmA (mv nl 11)
          have HH2 := HH.oth13 nm1 nm2 nm3 (m * 13) (.int .i64 nl) (.int .i64 11) (.int .i64 0) (.int .i64 0) (.int .i64 0) (.int .u64 0) (.int .u64 0) (.int .u64 0) (.int .u64 0) (.int .u64 0) (.int .u64 0) (.int .i64 0) (.int .i64 0)
          have hG2 := hG.oth13 (Ne.symm dMG) (m * 13) (.int .i64 nl) (.int .i64 11) (.int .i64 0) (.int .i64 0) (.int .i64 0) (.int .u64 0) (.int .u64 0) (.int .u64 0) (.int .u64 0) (.int .u64 0) (.int .u64 0) (.int .i64 0) (.int .i64 0)
          have hX2 := hX.oth13 (Ne.symm dMX) (m * 13) (.int .i64 nl) (.int .i64 11) (.int .i64 0) (.int .i64 0) (.int .i64 0) (.int .u64 0) (.int .u64 0) (.int .u64 0) (.int .u64 0) (.int .u64 0) (.int .u64 0) (.int .i64 0) (.int .i64 0)
          have hFF2 := hFF.set13 tM (m * 13) (.int .i64 nl) (.int .i64 11) (.int .i64 0) (.int .i64 0) (.int .i64 0) (.int .u64 0) (.int .u64 0) (.int .u64 0) (.int .u64 0) (.int .u64 0) (.int .u64 0) (.int .i64 0) (.int .i64 0)
          go_roundw
          case rel =>
            refine ⟨i + 1, by omega, by go_num, ?_, ?_, ?_, ?_, ?_, hFF2⟩
            · rw [← hnxe, hnx]
            · rw [← hnxe, hnx]; exact HH2
            · rw [← hnxe, hnx]; exact hM2
            · rw [← hnxe, hnx]; exact hG2
            · rw [← hnxe, hnx]; exact hX2
          case measure => simp [intOf]; omega
        · have hq : q = 11 := by omega
          subst hq
          by_cases h24 : ln = 24
          · subst h24
            rw [if_pos rfl] at hnx
            have HX : ∀ (W : World) (H : HAt W h ab db s), Calls Try.prog 41 #[.pointer (some ⟨h, 0, none⟩), .int .i64 (m : Int), .agg #[.int .i64 90, .int .i64 11, .int .i64 0, .int .i64 0, .int .i64 0, .int .u64 0, .int .u64 0, .int .u64 0, .int .u64 0, .int .u64 0, .int .u64 0, .int .i64 0, .int .i64 0]] W fun e w' => e = .returned (.tuple #[.agg #[.int .i64 nl, .int .i64 11, .int .i64 0, .int .i64 0, .int .i64 0, .int .u64 0, .int .u64 0, .int .u64 0, .int .u64 0, .int .u64 0, .int .u64 0, .int .i64 0, .int .i64 0], .bool true]) ∧ HAt w' h ab db s2 ∧ Fr [h, db] W w' := HX0
            clear HX0
            replace HX := hid HX
            have lh1 := HH.blk.lt
            have lh2 := HH.ar.hdr.lt
            have lh3 := HH.ar.dat.lt
            have lM := hM.lt
            have lG := hG.lt
            have lX := hX.lt
            have sF := hFF.size
            have ny1 : h ≠ wr.heap.size := by omega
            have ny2 : ab ≠ wr.heap.size := by omega
            have ny3 : db ≠ wr.heap.size := by omega
            have dMY : M ≠ wr.heap.size := by omega
            have dGY : G ≠ wr.heap.size := by omega
            have dGY2 : ¬ wr.heap.size = G := by omega
            have dXY : X ≠ wr.heap.size := by omega
            have tY : w.heap.size ≤ wr.heap.size := by omega
            have fG := hG.free
            have dgA := ints_at (hG.alloc (.cells #[.int .i64 24, .int .i64 11, .int .i64 0, .int .i64 0, .int .i64 0, .int .u64 0, .int .u64 0, .int .u64 0, .int .u64 0, .int .u64 0, .int .u64 0, .int .i64 0, .int .i64 0] 54)) hgv
            have fGA := (hG.alloc (.cells #[.int .i64 24, .int .i64 11, .int .i64 0, .int .i64 0, .int .i64 0, .int .u64 0, .int .u64 0, .int .u64 0, .int .u64 0, .int .u64 0, .int .u64 0, .int .i64 0, .int .i64 0] 54)).free
            have fGB := (hG.alloc (.cells #[.int .i64 90, .int .i64 11, .int .i64 0, .int .i64 0, .int .i64 0, .int .u64 0, .int .u64 0, .int .u64 0, .int .u64 0, .int .u64 0, .int .u64 0, .int .i64 0, .int .i64 0] 54)).free
            have dgB := ints_at (hG.alloc (.cells #[.int .i64 90, .int .i64 11, .int .i64 0, .int .i64 0, .int .i64 0, .int .u64 0, .int .u64 0, .int .u64 0, .int .u64 0, .int .u64 0, .int .u64 0, .int .i64 0, .int .i64 0] 54)) hgv
            replace hG := ints_set hG m (gv + 1)
            replace hM := hM.other (p := ⟨G, m, none⟩) dMG (.int .i64 (gv + 1))
            replace hX := hX.other (p := ⟨G, m, none⟩) (Ne.symm dGX) (.int .i64 (gv + 1))
            replace HH := HH.other (p := ⟨G, m, none⟩) ng1 ng2 ng3 (.int .i64 (gv + 1))
            replace hFF := hFF.setNew (p := ⟨G, m, none⟩) tG (.int .i64 (gv + 1))
            have kY := (Blk.new wr [.int .i64 24, .int .i64 11, .int .i64 0, .int .i64 0, .int .i64 0, .int .u64 0, .int .u64 0, .int .u64 0, .int .u64 0, .int .u64 0, .int .u64 0, .int .i64 0, .int .i64 0] 54).cell
            replace HH := HH.alloc (.cells #[.int .i64 90, .int .i64 11, .int .i64 0, .int .i64 0, .int .i64 0, .int .u64 0, .int .u64 0, .int .u64 0, .int .u64 0, .int .u64 0, .int .u64 0, .int .i64 0, .int .i64 0] 54)
            replace hM := hM.alloc (.cells #[.int .i64 90, .int .i64 11, .int .i64 0, .int .i64 0, .int .i64 0, .int .u64 0, .int .u64 0, .int .u64 0, .int .u64 0, .int .u64 0, .int .u64 0, .int .i64 0, .int .i64 0] 54)
            replace hG := hG.alloc (.cells #[.int .i64 90, .int .i64 11, .int .i64 0, .int .i64 0, .int .i64 0, .int .u64 0, .int .u64 0, .int .u64 0, .int .u64 0, .int .u64 0, .int .u64 0, .int .i64 0, .int .i64 0] 54)
            replace hX := hX.alloc (.cells #[.int .i64 90, .int .i64 11, .int .i64 0, .int .i64 0, .int .i64 0, .int .u64 0, .int .u64 0, .int .u64 0, .int .u64 0, .int .u64 0, .int .u64 0, .int .i64 0, .int .i64 0] 54)
            replace hFF := hFF.alloc (.cells #[.int .i64 90, .int .i64 11, .int .i64 0, .int .i64 0, .int .i64 0, .int .u64 0, .int .u64 0, .int .u64 0, .int .u64 0, .int .u64 0, .int .u64 0, .int .i64 0, .int .i64 0] 54)
            go_wp2_with (first | (go_at_call 41; refine (HX.out _ HH).mono ?_; rintro e w8 ⟨rfl, HH, hF2⟩; (replace hX := hX.kept hF2 nX); (replace hM := hM.kept hF2 nM); (replace hG := hG.kept hF2 nG); (replace hFF := hFF.trans_new hF2 hSS); (have fM8 := hM.free); (obtain ⟨z0, z1, z2, z3, z4, z5, z6, z7, z8, z9, z10, z11, z12⟩ := hM.atmv hA)))
            have hM2 := hM.set13 hmA (mv nl 11)
            have HH2 := HH.oth13 nm1 nm2 nm3 (m * 13) (.int .i64 nl) (.int .i64 11) (.int .i64 0) (.int .i64 0) (.int .i64 0) (.int .u64 0) (.int .u64 0) (.int .u64 0) (.int .u64 0) (.int .u64 0) (.int .u64 0) (.int .i64 0) (.int .i64 0)
            have hG2 := hG.oth13 (Ne.symm dMG) (m * 13) (.int .i64 nl) (.int .i64 11) (.int .i64 0) (.int .i64 0) (.int .i64 0) (.int .u64 0) (.int .u64 0) (.int .u64 0) (.int .u64 0) (.int .u64 0) (.int .u64 0) (.int .i64 0) (.int .i64 0)
            have hX2 := hX.oth13 (Ne.symm dMX) (m * 13) (.int .i64 nl) (.int .i64 11) (.int .i64 0) (.int .i64 0) (.int .i64 0) (.int .u64 0) (.int .u64 0) (.int .u64 0) (.int .u64 0) (.int .u64 0) (.int .u64 0) (.int .i64 0) (.int .i64 0)
            have hFF2 := hFF.set13 tM (m * 13) (.int .i64 nl) (.int .i64 11) (.int .i64 0) (.int .i64 0) (.int .i64 0) (.int .u64 0) (.int .u64 0) (.int .u64 0) (.int .u64 0) (.int .u64 0) (.int .u64 0) (.int .i64 0) (.int .i64 0)
            go_roundw
            case rel =>
              refine ⟨i + 1, by omega, by go_num, ?_, ?_, ?_, ?_, ?_, hFF2⟩
              · rw [← hnxe, hnx]
              · rw [← hnxe, hnx]; exact HH2
              · rw [← hnxe, hnx]; exact hM2
              · rw [← hnxe, hnx]; exact hG2
              · rw [← hnxe, hnx]; exact hX2
            case measure => simp [intOf]; omega
          · rw [if_neg h24] at hnx
            have b0 : (ln == 0) = false := beq_eq_false_iff_ne.2 h0
            have b24 : (ln == 24) = false := beq_eq_false_iff_ne.2 h24
            have hfr : gkFrom ln = ln := by unfold gkFrom; rw [if_neg h0, if_neg h24]
            rw [hfr] at HX0
            have HX : ∀ (W : World) (H : HAt W h ab db s), Calls Try.prog 41 #[.pointer (some ⟨h, 0, none⟩), .int .i64 (m : Int), .agg #[.int .i64 ln, .int .i64 11, .int .i64 0, .int .i64 0, .int .i64 0, .int .u64 0, .int .u64 0, .int .u64 0, .int .u64 0, .int .u64 0, .int .u64 0, .int .i64 0, .int .i64 0]] W fun e w' => e = .returned (.tuple #[.agg #[.int .i64 nl, .int .i64 11, .int .i64 0, .int .i64 0, .int .i64 0, .int .u64 0, .int .u64 0, .int .u64 0, .int .u64 0, .int .u64 0, .int .u64 0, .int .i64 0, .int .i64 0], .bool true]) ∧ HAt w' h ab db s2 ∧ Fr [h, db] W w' := HX0
            clear HX0
            replace HX := hid HX
            have lh1 := HH.blk.lt
            have lh2 := HH.ar.hdr.lt
            have lh3 := HH.ar.dat.lt
            have lM := hM.lt
            have lG := hG.lt
            have lX := hX.lt
            have sF := hFF.size
            have ny1 : h ≠ wr.heap.size := by omega
            have ny2 : ab ≠ wr.heap.size := by omega
            have ny3 : db ≠ wr.heap.size := by omega
            have dMY : M ≠ wr.heap.size := by omega
            have dGY : G ≠ wr.heap.size := by omega
            have dGY2 : ¬ wr.heap.size = G := by omega
            have dXY : X ≠ wr.heap.size := by omega
            have tY : w.heap.size ≤ wr.heap.size := by omega
            have hY := Blk.new wr [.int .i64 ln, .int .i64 11, .int .i64 0, .int .i64 0, .int .i64 0, .int .u64 0, .int .u64 0, .int .u64 0, .int .u64 0, .int .u64 0, .int .u64 0, .int .i64 0, .int .i64 0] 54
            have kY := hY.cell
            replace HH := HH.alloc (.cells #[.int .i64 ln, .int .i64 11, .int .i64 0, .int .i64 0, .int .i64 0, .int .u64 0, .int .u64 0, .int .u64 0, .int .u64 0, .int .u64 0, .int .u64 0, .int .i64 0, .int .i64 0] 54)
            replace hM := hM.alloc (.cells #[.int .i64 ln, .int .i64 11, .int .i64 0, .int .i64 0, .int .i64 0, .int .u64 0, .int .u64 0, .int .u64 0, .int .u64 0, .int .u64 0, .int .u64 0, .int .i64 0, .int .i64 0] 54)
            replace hG := hG.alloc (.cells #[.int .i64 ln, .int .i64 11, .int .i64 0, .int .i64 0, .int .i64 0, .int .u64 0, .int .u64 0, .int .u64 0, .int .u64 0, .int .u64 0, .int .u64 0, .int .i64 0, .int .i64 0] 54)
            replace hX := hX.alloc (.cells #[.int .i64 ln, .int .i64 11, .int .i64 0, .int .i64 0, .int .i64 0, .int .u64 0, .int .u64 0, .int .u64 0, .int .u64 0, .int .u64 0, .int .u64 0, .int .i64 0, .int .i64 0] 54)
            replace hFF := hFF.alloc (.cells #[.int .i64 ln, .int .i64 11, .int .i64 0, .int .i64 0, .int .i64 0, .int .u64 0, .int .u64 0, .int .u64 0, .int .u64 0, .int .u64 0, .int .u64 0, .int .i64 0, .int .i64 0] 54)
            go_wp2_with (first | (go_at_call 41; refine (HX.out _ HH).mono ?_; rintro e w8 ⟨rfl, HH, hF2⟩; (replace hX := hX.kept hF2 nX); (replace hM := hM.kept hF2 nM); (replace hG := hG.kept hF2 nG); (replace hFF := hFF.trans_new hF2 hSS); (have fM8 := hM.free); (obtain ⟨z0, z1, z2, z3, z4, z5, z6, z7, z8, z9, z10, z11, z12⟩ := hM.atmv hA)))
            have hM2 := hM.set13 hmA (mv nl 11)
            have HH2 := HH.oth13 nm1 nm2 nm3 (m * 13) (.int .i64 nl) (.int .i64 11) (.int .i64 0) (.int .i64 0) (.int .i64 0) (.int .u64 0) (.int .u64 0) (.int .u64 0) (.int .u64 0) (.int .u64 0) (.int .u64 0) (.int .i64 0) (.int .i64 0)
            have hG2 := hG.oth13 (Ne.symm dMG) (m * 13) (.int .i64 nl) (.int .i64 11) (.int .i64 0) (.int .i64 0) (.int .i64 0) (.int .u64 0) (.int .u64 0) (.int .u64 0) (.int .u64 0) (.int .u64 0) (.int .u64 0) (.int .i64 0) (.int .i64 0)
            have hX2 := hX.oth13 (Ne.symm dMX) (m * 13) (.int .i64 nl) (.int .i64 11) (.int .i64 0) (.int .i64 0) (.int .i64 0) (.int .u64 0) (.int .u64 0) (.int .u64 0) (.int .u64 0) (.int .u64 0) (.int .u64 0) (.int .i64 0) (.int .i64 0)
            have hFF2 := hFF.set13 tM (m * 13) (.int .i64 nl) (.int .i64 11) (.int .i64 0) (.int .i64 0) (.int .i64 0) (.int .u64 0) (.int .u64 0) (.int .u64 0) (.int .u64 0) (.int .u64 0) (.int .u64 0) (.int .i64 0) (.int .i64 0)
            go_roundw
            case rel =>
              refine ⟨i + 1, by omega, by go_num, ?_, ?_, ?_, ?_, ?_, hFF2⟩
              · rw [← hnxe, hnx]
              · rw [← hnxe, hnx]; exact HH2
              · rw [← hnxe, hnx]; exact hM2
              · rw [← hnxe, hnx]; exact hG2
              · rw [← hnxe, hnx]; exact hX2
            case measure => simp [intOf]; omega

end Go.Proofs.Ytolkgdchinaonaa
