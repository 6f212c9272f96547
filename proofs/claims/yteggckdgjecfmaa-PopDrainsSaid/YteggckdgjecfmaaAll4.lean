/- mudlarkref04.All, First. -/
import Derived.Test.YteggckdgjecfmaaRef03
namespace Go.Proofs.Yteggckdgjecfmaa
open Go.RowKit
set_option linter.unusedVariables false
set_option linter.unusedSimpArgs false

theorem infoS : (Try.prog.info? 110).map (fun i => (i.zero, i.size, i.bytes)) = some (some (.agg #[.int .i64 0, .int .i64 0, .int .i64 0]), 3, 24) := by kernel_rfl

/-- A spot: kind, two numbers. -/
structure Spot3 where
  k : Int
  a : Int
  b : Int
def spotCs (l : List Spot3) : List Value := l.flatMap fun s => [.int .i64 s.k, .int .i64 s.a, .int .i64 s.b]
theorem spotCs_append (l m : List Spot3) : spotCs (l ++ m) = spotCs l ++ spotCs m := by simp [spotCs]
theorem spotCs_length (l : List Spot3) : (spotCs l).length = l.length * 3 := by
  induction l with
  | nil => rfl
  | cons s l ih => simp [spotCs] at ih ⊢; omega
theorem spotCs_get (l : List Spot3) (j : Nat) (s : Spot3) (h : l[j]? = some s) : (spotCs l)[3 * j]? = some (.int .i64 s.k) ∧ (spotCs l)[3 * j + 1]? = some (.int .i64 s.a) ∧ (spotCs l)[3 * j + 2]? = some (.int .i64 s.b) := by
  induction l generalizing j with
  | nil => simp at h
  | cons t l ih =>
    cases j with
    | zero => simp at h; subst h; simp [spotCs]
    | succ j =>
      have := ih j (by simpa using h)
      have e : spotCs (t :: l) = [.int .i64 t.k, .int .i64 t.a, .int .i64 t.b] ++ spotCs l := by simp [spotCs]
      have e1 : 3 * (j + 1) = 3 * j + 3 := by omega
      rw [e, e1]
      exact this
def row1 (k : Int) (n : Nat) : List Spot3 := (List.range n).map fun (i : Nat) => ⟨k, (i : Int), 0⟩
theorem row1_succ (k : Int) (n : Nat) : row1 k (n + 1) = row1 k n ++ [⟨k, (n : Int), 0⟩] := by simp [row1, List.range_succ]
def rowR (m : Int) (n : Nat) : List Spot3 := (List.range n).map fun (i : Nat) => ⟨3, m, (i : Int)⟩
theorem rowR_succ (m : Int) (n : Nat) : rowR m (n + 1) = rowR m n ++ [⟨3, m, (n : Int)⟩] := by simp [rowR, List.range_succ]
def rowsR (r n : Nat) : List Spot3 := (List.range n).flatMap fun (m : Nat) => rowR (m : Int) r
theorem rowsR_succ (r n : Nat) : rowsR r (n + 1) = rowsR r n ++ rowR n r := by simp [rowsR, List.range_succ]
def rowsC (n : Nat) : List Spot3 := (List.range n).flatMap fun (i : Nat) => [⟨4, (i : Int), 0⟩, ⟨5, (i : Int), 0⟩, ⟨6, (i : Int), 0⟩]
theorem rowsC_succ (n : Nat) : rowsC (n + 1) = rowsC n ++ [⟨4, (n : Int), 0⟩, ⟨5, (n : Int), 0⟩, ⟨6, (n : Int), 0⟩] := by simp [rowsC, List.range_succ]
theorem row1_length (k : Int) (n : Nat) : (row1 k n).length = n := by simp [row1]
theorem rowR_length (m : Int) (n : Nat) : (rowR m n).length = n := by simp [rowR]
theorem rowsR_length (r n : Nat) : (rowsR r n).length = n * r := by
  induction n with
  | zero => simp [rowsR]
  | succ n ih => rw [rowsR_succ, List.length_append, ih, rowR_length, Nat.succ_mul]
theorem rowsC_length (n : Nat) : (rowsC n).length = n * 3 := by
  induction n with
  | zero => simp [rowsC]
  | succ n ih => rw [rowsC_succ, List.length_append, ih]; simp; omega
/-- All spots of a configuration of these numbers. -/
def allS (cc cm cr cg : Nat) : List Spot3 := row1 0 5 ++ row1 1 cm ++ row1 2 cg ++ rowsR cr cm ++ rowsC cc

/-- A list of spots that the call made. -/
def OwnS (base : Nat) (w : World) (v : Value) (l : List Spot3) : Prop := w.ownsRow base 110 3 v l.length (spotCs l)
theorem OwnS.nil (base : Nat) (w : World) : OwnS base w (.slice none 0 0) [] := World.ownsRow_nil _ _ _ _
theorem OwnS.lt {base : Nat} {w : World} {v : Value} {l : List Spot3} (h : OwnS base w v l) : ∀ k, v.ownBlock = some k → base ≤ k ∧ k < w.heap.size := World.ownsRow.lt h

theorem owns_step {base : Nat} {w : World} {v : Value} {l m : List Spot3} (h : w.ownsRow base 110 3 v (l.length + m.length) (spotCs l ++ spotCs m)) : OwnS base w v (l ++ m) := by
  unfold OwnS; rw [List.length_append, spotCs_append]; exact h

set_option maxRecDepth 100000 in
set_option maxHeartbeats 1000000 in
theorem all4_ok {w : World} {cc cm cr cg : Nat} (hR : (⟨cc, cm, cr, cg⟩ : Cfg).Right) :
    Calls Try.prog 109 #[(⟨cc, cm, cr, cg⟩ : Cfg).val] w fun e w' => (∃ v, e = .returned v ∧ OwnS (w.heap.size + 1) w' v (allS cc cm cr cg)) ∧ Fr [] w w' := by
  obtain ⟨i0, hi, hz0, hz1, hz2⟩ := info_parts infoS
  have HRt := hid (fun W => rRight_any _ W true hR.right)
  obtain ⟨R1, R2, R3, R4, R5, R6, R7, R8⟩ := hR
  simp only at R1 R2 R3 R4 R5 R6 R7 R8
  have hmr : cm * cr ≤ 4032 := by
    have := Nat.mul_le_mul (show cm ≤ 63 by omega) (show cr ≤ 64 by omega)
    omega
  have HB0 := hid (Blk.new w [.int .i64 (cc : Int), .int .i64 cm, .int .i64 cr, .int .i64 cg] 45)
  go_enter Try.func109, Try.ntmps109
  go_wp2_with fail
  refine (HRt.out _).mono ?_
  rintro e w0 ⟨rfl, hF0⟩
  have hB := HB0.out.kept hF0 (by simp)
  have hFw := ((Fr.refl [] w).alloc _).trans hF0
  go_wp2
  go_loopw [3, 4] (fun v i wr => ∃ a : Nat, a ≤ 5 ∧ i = .int .i64 a ∧ OwnS (w.heap.size + 1) wr v (row1 0 a) ∧ Blk wr w.heap.size 45 [.int .i64 (cc : Int), .int .i64 cm, .int .i64 cr, .int .i64 cg] ∧ Fr [] w wr) (fun _ i _ => 5 - (intOf i).toNat)
  case atStart => exact ⟨0, by omega, rfl, OwnS.nil _ _, hB, hFw⟩
  case round =>
    obtain ⟨a, ha, rfl, hO, hB, hFw⟩ := hrel
    have kB := hB.cell
    have hsz := hFw.size
    have lB := hB.lt
    by_cases hlta : a < 5
    · have hlen : (row1 0 a).length = a := by simp [row1_length, rowR_length, rowsR_length, rowsC_length] <;> omega
      have hbd : a ≤ 17000 := by omega
      have HL := hid hlen
      have HOlt := hid hO.lt
      unfold OwnS at hO
      rw [hlen] at hO
      clear hlen
      go_wp2_with (first | (at_builtin; refine wpList_append_own _ rfl _ _ 136 rfl (w.heap.size + 1) 110 i0 (.agg #[.int .i64 0, .int .i64 0, .int .i64 0]) 3 24 Try.underlying136 hi hz0 hz1 hz2 rfl (by decide) _ _ _ rfl (hO.alloc _) ⟨wr.heap.size, 0, none⟩ 1 1 [.int .i64 0, .int .i64 (a : Int), .int .i64 0] rfl rfl (news_new _ _ _) (by simp [Value.oneCell']) (by simp only [maxLen]; omega) (by omega) (by simp; omega) ?_))
      intro v' w1 hown1 hg1 _
      have HO := hid hown1
      have HF : Hid (Fr [] w w1) := hid ((hFw.alloc _).grown hg1 (fun j hj hj2 => by have := HOlt.out j hj; omega))
      have HB1 := hid (blk_grown (hB.alloc _) hg1 (fun e => by have := HOlt.out _ e; omega))
      clear hown1 hg1
      go_wp2
      go_roundw
      case rel =>
        refine ⟨a + 1, by omega, by go_num, ?_, HB1.out, HF.out⟩
        have h1 := HO.out
        have h2 := owns_step (l := _) (m := [⟨0, (a : Int), 0⟩]) (by rw [HL.out]; (try simp only [List.append_assoc]); exact h1)
        rw [row1_succ]
        simpa using h2
      case measure => simp [intOf]; omega
    · have h5 : 5 ≤ a := by omega
      have h5' : a = 5 := by omega
      rw [h5'] at hO
      have H5 := hid h5'
      clear h5'
      go_wp2
      go_loopw [3, 5] (fun v i wr => ∃ b : Nat, b ≤ cm ∧ i = .int .i64 b ∧ OwnS (w.heap.size + 1) wr v (row1 0 5 ++ row1 1 b) ∧ Blk wr w.heap.size 45 [.int .i64 (cc : Int), .int .i64 cm, .int .i64 cr, .int .i64 cg] ∧ Fr [] w wr) (fun _ i _ => cm - (intOf i).toNat)
      case atStart => exact ⟨0, by omega, rfl, by simpa [row1] using hO, hB, hFw⟩
      case round =>
        obtain ⟨b, hb, rfl, hO, hB, hFw⟩ := hrel
        have kB := hB.cell
        have hsz := hFw.size
        have lB := hB.lt
        by_cases hltb : b < cm
        · have hlen : (row1 0 5 ++ row1 1 b).length = 5 + b := by simp [row1_length, rowR_length, rowsR_length, rowsC_length] <;> omega
          have hbd : 5 + b ≤ 17000 := by omega
          have HL := hid hlen
          have HOlt := hid hO.lt
          unfold OwnS at hO
          rw [hlen] at hO
          clear hlen
          go_wp2_with (first | (at_builtin; refine wpList_append_own _ rfl _ _ 136 rfl (w.heap.size + 1) 110 i0 (.agg #[.int .i64 0, .int .i64 0, .int .i64 0]) 3 24 Try.underlying136 hi hz0 hz1 hz2 rfl (by decide) _ _ _ rfl (hO.alloc _) ⟨wr.heap.size, 0, none⟩ 1 1 [.int .i64 1, .int .i64 (b : Int), .int .i64 0] rfl rfl (news_new _ _ _) (by simp [Value.oneCell']) (by simp only [maxLen]; omega) (by omega) (by simp; omega) ?_))
          intro v' w1 hown1 hg1 _
          have HO := hid hown1
          have HF : Hid (Fr [] w w1) := hid ((hFw.alloc _).grown hg1 (fun j hj hj2 => by have := HOlt.out j hj; omega))
          have HB1 := hid (blk_grown (hB.alloc _) hg1 (fun e => by have := HOlt.out _ e; omega))
          clear hown1 hg1
          go_wp2
          go_roundw
          case rel =>
            refine ⟨b + 1, by omega, by go_num, ?_, HB1.out, HF.out⟩
            have h1 := HO.out
            have h2 := owns_step (l := _) (m := [⟨1, (b : Int), 0⟩]) (by rw [HL.out]; (try simp only [List.append_assoc]); exact h1)
            rw [row1_succ 1 b]
            simpa using h2
          case measure => simp [intOf]; omega
        · obtain rfl : cm = b := by omega
          go_wp2
          go_loopw [3, 6] (fun v i wr => ∃ d : Nat, d ≤ cg ∧ i = .int .i64 d ∧ OwnS (w.heap.size + 1) wr v (row1 0 5 ++ row1 1 cm ++ row1 2 d) ∧ Blk wr w.heap.size 45 [.int .i64 (cc : Int), .int .i64 cm, .int .i64 cr, .int .i64 cg] ∧ Fr [] w wr) (fun _ i _ => cg - (intOf i).toNat)
          case atStart => exact ⟨0, by omega, rfl, by simpa [row1] using hO, hB, hFw⟩
          case round =>
            obtain ⟨d, hd, rfl, hO, hB, hFw⟩ := hrel
            have kB := hB.cell
            have hsz := hFw.size
            have lB := hB.lt
            by_cases hltd : d < cg
            · have hlen : (row1 0 5 ++ row1 1 cm ++ row1 2 d).length = 5 + cm + d := by simp [row1_length, rowR_length, rowsR_length, rowsC_length] <;> omega
              have hbd : 5 + cm + d ≤ 17000 := by omega
              have HL := hid hlen
              have HOlt := hid hO.lt
              unfold OwnS at hO
              rw [hlen] at hO
              clear hlen
              go_wp2_with (first | (at_builtin; refine wpList_append_own _ rfl _ _ 136 rfl (w.heap.size + 1) 110 i0 (.agg #[.int .i64 0, .int .i64 0, .int .i64 0]) 3 24 Try.underlying136 hi hz0 hz1 hz2 rfl (by decide) _ _ _ rfl (hO.alloc _) ⟨wr.heap.size, 0, none⟩ 1 1 [.int .i64 2, .int .i64 (d : Int), .int .i64 0] rfl rfl (news_new _ _ _) (by simp [Value.oneCell']) (by simp only [maxLen]; omega) (by omega) (by simp; omega) ?_))
              intro v' w1 hown1 hg1 _
              have HO := hid hown1
              have HF : Hid (Fr [] w w1) := hid ((hFw.alloc _).grown hg1 (fun j hj hj2 => by have := HOlt.out j hj; omega))
              have HB1 := hid (blk_grown (hB.alloc _) hg1 (fun e => by have := HOlt.out _ e; omega))
              clear hown1 hg1
              go_wp2
              go_roundw
              case rel =>
                refine ⟨d + 1, by omega, by go_num, ?_, HB1.out, HF.out⟩
                have h1 := HO.out
                have h2 := owns_step (l := _) (m := [⟨2, (d : Int), 0⟩]) (by rw [HL.out]; (try simp only [List.append_assoc]); exact h1)
                rw [row1_succ 2 d]
                simpa using h2
              case measure => simp [intOf]; omega
            · obtain rfl : cg = d := by omega
              go_wp2
              go_loopw [3, 7] (fun v i wr => ∃ m : Nat, m ≤ cm ∧ i = .int .i64 m ∧ OwnS (w.heap.size + 1) wr v (row1 0 5 ++ row1 1 cm ++ row1 2 cg ++ rowsR cr m) ∧ Blk wr w.heap.size 45 [.int .i64 (cc : Int), .int .i64 cm, .int .i64 cr, .int .i64 cg] ∧ Fr [] w wr) (fun _ i _ => cm - (intOf i).toNat)
              case atStart => exact ⟨0, by omega, rfl, by simpa [rowsR] using hO, hB, hFw⟩
              case round =>
                obtain ⟨m, hm, rfl, hO, hB, hFw⟩ := hrel
                have kB := hB.cell
                have hsz := hFw.size
                have lB := hB.lt
                by_cases hltm : m < cm
                · have hlen : (row1 0 5 ++ row1 1 cm ++ row1 2 cg ++ rowsR cr m).length = 5 + cm + cg + m * cr := by simp [row1_length, rowR_length, rowsR_length, rowsC_length] <;> omega
                  have hmm : m * cr + cr ≤ cm * cr := by have := Nat.mul_le_mul_right cr (show m + 1 ≤ cm by omega); rw [Nat.succ_mul] at this; exact this
                  have HMM := hid hmm
                  clear hlen hmm
                  obtain ⟨wo, rfl⟩ : ∃ wo : World, wo = wr := ⟨_, rfl⟩
                  have hbig : m * cr + cr ≤ 4032 := Nat.le_trans HMM.out hmr
                  obtain ⟨mc, hmc⟩ : ∃ mc, mc = m * cr := ⟨_, rfl⟩
                  rw [← hmc] at hbig
                  have HMC := hid hmc
                  clear hmc
                  go_wp2
                  go_loopw [3, 8] (fun v i wr => ∃ r : Nat, r ≤ cr ∧ i = .int .i64 r ∧ OwnS (w.heap.size + 1) wr v (row1 0 5 ++ row1 1 cm ++ row1 2 cg ++ rowsR cr m ++ rowR m r) ∧ Blk wr w.heap.size 45 [.int .i64 (cc : Int), .int .i64 cm, .int .i64 cr, .int .i64 cg] ∧ Fr [] w wr) (fun _ i _ => cr - (intOf i).toNat)
                  case atStart => exact ⟨0, by omega, rfl, by simpa [rowR] using hO, hB, hFw⟩
                  case round =>
                    obtain ⟨r, hr, rfl, hO, hB, hFw⟩ := hrel
                    have kB := hB.cell
                    have hsz := hFw.size
                    have lB := hB.lt
                    by_cases hltr : r < cr
                    · have hlen : (row1 0 5 ++ row1 1 cm ++ row1 2 cg ++ rowsR cr m ++ rowR m r).length = 5 + cm + cg + mc + r := by rw [HMC.out]; simp [row1_length, rowR_length, rowsR_length, rowsC_length]; omega
                      have hbd : 5 + cm + cg + mc + r ≤ 17000 := by omega
                      have HL := hid hlen
                      have HOlt := hid hO.lt
                      unfold OwnS at hO
                      rw [hlen] at hO
                      clear hlen
                      go_wp2_with (first | (at_builtin; refine wpList_append_own _ rfl _ _ 136 rfl (w.heap.size + 1) 110 i0 (.agg #[.int .i64 0, .int .i64 0, .int .i64 0]) 3 24 Try.underlying136 hi hz0 hz1 hz2 rfl (by decide) _ _ _ rfl (hO.alloc _) ⟨wr.heap.size, 0, none⟩ 1 1 [.int .i64 3, .int .i64 (m : Int), .int .i64 (r : Int)] rfl rfl (news_new _ _ _) (by simp [Value.oneCell']) (by simp only [maxLen]; omega) (by omega) (by simp; omega) ?_))
                      intro v' w1 hown1 hg1 _
                      have HO := hid hown1
                      have HF : Hid (Fr [] w w1) := hid ((hFw.alloc _).grown hg1 (fun j hj hj2 => by have := HOlt.out j hj; omega))
                      have HB1 := hid (blk_grown (hB.alloc _) hg1 (fun e => by have := HOlt.out _ e; omega))
                      clear hown1 hg1
                      go_wp2
                      go_roundw
                      case rel =>
                        refine ⟨r + 1, by omega, by go_num, ?_, HB1.out, HF.out⟩
                        have h1 := HO.out
                        have h2 := owns_step (l := _) (m := [⟨3, (m : Int), (r : Int)⟩]) (by rw [HL.out]; (try simp only [List.append_assoc]); exact h1)
                        rw [rowR_succ]
                        simpa using h2
                      case measure => simp [intOf]; omega
                    · obtain rfl : cr = r := by omega
                      go_wp2
                      go_roundw
                      case rel =>
                        refine ⟨m + 1, by omega, by go_num, ?_, hB, hFw⟩
                        rw [rowsR_succ]
                        simpa using hO
                      case measure => simp [intOf]; omega
                · obtain rfl : cm = m := by omega
                  go_wp2
                  go_loopw [3, 9] (fun v i wr => ∃ e : Nat, e ≤ cc ∧ i = .int .i64 e ∧ OwnS (w.heap.size + 1) wr v (row1 0 5 ++ row1 1 cm ++ row1 2 cg ++ rowsR cr cm ++ rowsC e) ∧ Blk wr w.heap.size 45 [.int .i64 (cc : Int), .int .i64 cm, .int .i64 cr, .int .i64 cg] ∧ Fr [] w wr) (fun _ i _ => cc - (intOf i).toNat)
                  case atStart => exact ⟨0, by omega, rfl, by simpa [rowsC] using hO, hB, hFw⟩
                  case round =>
                    obtain ⟨e, he, rfl, hO, hB, hFw⟩ := hrel
                    have kB := hB.cell
                    have hsz := hFw.size
                    have lB := hB.lt
                    by_cases hlte : e < cc
                    · have hlen : (row1 0 5 ++ row1 1 cm ++ row1 2 cg ++ rowsR cr cm ++ rowsC e).length = 5 + cm + cg + cm * cr + e * 3 := by simp [row1_length, rowR_length, rowsR_length, rowsC_length] <;> omega
                      have hbd : 5 + cm + cg + cm * cr + e * 3 ≤ 17000 := by omega
                      have HL := hid hlen
                      have HOlt := hid hO.lt
                      unfold OwnS at hO
                      rw [hlen] at hO
                      clear hlen
                      go_wp2_with (first | (at_builtin; refine wpList_append_own _ rfl _ _ 136 rfl (w.heap.size + 1) 110 i0 (.agg #[.int .i64 0, .int .i64 0, .int .i64 0]) 3 24 Try.underlying136 hi hz0 hz1 hz2 rfl (by decide) _ _ _ rfl (hO.alloc _) ⟨wr.heap.size, 0, none⟩ 3 3 [.int .i64 4, .int .i64 (e : Int), .int .i64 0, .int .i64 5, .int .i64 (e : Int), .int .i64 0, .int .i64 6, .int .i64 (e : Int), .int .i64 0] rfl rfl (news_new _ _ _) (by simp [Value.oneCell']) (by simp only [maxLen]; omega) (by omega) (by simp; omega) ?_))
                      intro v' w1 hown1 hg1 _
                      have HO := hid hown1
                      have HF : Hid (Fr [] w w1) := hid ((hFw.alloc _).grown hg1 (fun j hj hj2 => by have := HOlt.out j hj; omega))
                      have HB1 := hid (blk_grown (hB.alloc _) hg1 (fun e => by have := HOlt.out _ e; omega))
                      clear hown1 hg1
                      go_wp2
                      go_roundw
                      case rel =>
                        refine ⟨e + 1, by omega, by go_num, ?_, HB1.out, HF.out⟩
                        have h1 := HO.out
                        have h2 := owns_step (l := _) (m := [⟨4, (e : Int), 0⟩, ⟨5, (e : Int), 0⟩, ⟨6, (e : Int), 0⟩]) (by rw [HL.out]; (try simp only [List.append_assoc]); exact h1)
                        rw [rowsC_succ]
                        simpa using h2
                      case measure => simp [intOf]; omega
                    · obtain rfl : cc = e := by omega
                      go_wp2
                      go_ret
                      exact ⟨⟨_, rfl, hO⟩, hFw⟩

theorem allS_length (cc cm cr cg : Nat) : (allS cc cm cr cg).length = 5 + cm + cg + cm * cr + cc * 3 := by
  simp [allS, row1_length, rowsR_length, rowsC_length]; omega

/-- What a spot holds at first. -/
def firstS (cc : Int) (s : Spot3) : Int := if s.k = 5 ∧ s.a + 1 < cc then cellW (s.a + 1) else if s.k = 0 ∧ s.a = 0 then cellW 0 else 0

theorem allS_get (cc cm cr cg k : Nat) : (allS cc cm cr cg)[k]? =
    if k < 5 then some ⟨0, k, 0⟩ else if k < 5 + cm then some ⟨1, ((k - 5 : Nat) : Int), 0⟩ else if k < 5 + cm + cg then some ⟨2, ((k - 5 - cm : Nat) : Int), 0⟩
    else if k < 5 + cm + cg + cm * cr then (rowsR cr cm)[k - 5 - cm - cg]? else (rowsC cc)[k - 5 - cm - cg - cm * cr]? := by
  have r1 : ∀ q n j, (row1 q n)[j]? = if j < n then some ⟨q, (j : Int), 0⟩ else none := by
    intro q n j
    by_cases h : j < n
    · simp [row1, h]
    · rw [if_neg h, List.getElem?_eq_none (by simp [row1_length]; omega)]
  unfold allS
  by_cases h1 : k < 5
  · rw [if_pos h1, List.getElem?_append_left (by simp [row1_length, rowsR_length]; omega), List.getElem?_append_left (by simp [row1_length]; omega), List.getElem?_append_left (by simp [row1_length]; omega), List.getElem?_append_left (by simp [row1_length]; omega), r1, if_pos h1]
  rw [if_neg h1]
  by_cases h2 : k < 5 + cm
  · rw [if_pos h2, List.getElem?_append_left (by simp [row1_length, rowsR_length]; omega), List.getElem?_append_left (by simp [row1_length]; omega), List.getElem?_append_left (by simp [row1_length]; omega), List.getElem?_append_right (by simp [row1_length]; omega), r1, row1_length, if_pos (by omega)]
  rw [if_neg h2]
  by_cases h3 : k < 5 + cm + cg
  · rw [if_pos h3, List.getElem?_append_left (by simp [row1_length, rowsR_length]; omega), List.getElem?_append_left (by simp [row1_length]; omega), List.getElem?_append_right (by simp [row1_length]; omega), r1, List.length_append, row1_length, row1_length, if_pos (by omega), Nat.sub_sub]
  rw [if_neg h3]
  by_cases h4 : k < 5 + cm + cg + cm * cr
  · rw [if_pos h4, List.getElem?_append_left (by simp [row1_length, rowsR_length]; omega), List.getElem?_append_right (by simp [row1_length]; omega)]
    simp only [List.length_append, row1_length]
    congr 1
    omega
  · rw [if_neg h4, List.getElem?_append_right (by simp [row1_length, rowsR_length]; omega)]
    simp only [List.length_append, row1_length, rowsR_length]
    congr 1
    omega

theorem rowsR_kind (r n j : Nat) (s : Spot3) (h : (rowsR r n)[j]? = some s) : s.k = 3 := by
  have hm := List.mem_of_getElem? h
  simp only [rowsR, rowR, List.mem_flatMap, List.mem_map] at hm
  obtain ⟨m, _, i, _, rfl⟩ := hm
  rfl
theorem rowsC_get (n j : Nat) (h : j < n * 3) : (rowsC n)[j]? = some ⟨4 + ((j % 3 : Nat) : Int), ((j / 3 : Nat) : Int), 0⟩ := by
  induction n with
  | zero => omega
  | succ n ih =>
    rw [rowsC_succ]
    by_cases hj : j < n * 3
    · rw [List.getElem?_append_left (by rw [rowsC_length]; exact hj)]
      exact ih hj
    · rw [List.getElem?_append_right (by rw [rowsC_length]; omega), rowsC_length]
      have hq : j / 3 = n := by omega
      rw [hq]
      have : j - n * 3 = 0 ∨ j - n * 3 = 1 ∨ j - n * 3 = 2 := by omega
      rcases this with h0 | h0 | h0
      · rw [h0, show j % 3 = 0 by omega]; rfl
      · rw [h0, show j % 3 = 1 by omega]; rfl
      · rw [h0, show j % 3 = 2 by omega]; rfl

theorem first_allS (cc cm cr cg : Nat) (hR : (⟨cc, cm, cr, cg⟩ : Cfg).Right) : (allS cc cm cr cg).map (firstS cc) = firstW ⟨cc, cm, cr, cg⟩ := by
  have hw := hR.words_pos
  have hc := words_cA ⟨cc, cm, cr, cg⟩
  have h1 := hR.c1
  have h0 := hR.c0
  simp only [Cfg.cA] at hc h1 h0
  have hcm : ((cm * cr : Nat) : Int) = (cm : Int) * cr := by simp
  have hn : (⟨cc, cm, cr, cg⟩ : Cfg).words.toNat = 5 + cm + cg + cm * cr + cc * 3 := by rw [hc]; omega
  apply List.ext_getElem?
  intro k
  rw [List.getElem?_map]
  by_cases hk : k < 5 + cm + cg + cm * cr + cc * 3
  · unfold firstW
    rw [firstTo_get _ _ _ (by rw [hn]; exact hk), allS_get]
    unfold firstAt
    generalize hA : Cfg.cA ⟨cc, cm, cr, cg⟩ = A
    simp only [Cfg.cA] at hA
    by_cases k1 : k < 5
    · rw [if_pos k1]
      by_cases k0 : k = 0
      · subst k0; simp [firstS, cellW]
      · rw [if_neg (by omega), if_neg (by omega)]
        simp [firstS]; omega
    rw [if_neg k1, if_neg (by omega : ¬ (k : Int) = 0)]
    by_cases k2 : k < 5 + cm
    · rw [if_pos k2, if_neg (by omega)]; simp [firstS]
    rw [if_neg k2]
    by_cases k3 : k < 5 + cm + cg
    · rw [if_pos k3, if_neg (by omega)]; simp [firstS]
    rw [if_neg k3]
    by_cases k4 : k < 5 + cm + cg + cm * cr
    · rw [if_pos k4, if_neg (by omega)]
      cases e : (rowsR cr cm)[k - 5 - cm - cg]? with
      | none => rw [List.getElem?_eq_none_iff, rowsR_length] at e; omega
      | some s => have := rowsR_kind _ _ _ _ e; simp [firstS, this]
    · rw [if_neg k4, rowsC_get _ _ (by omega)]
      obtain ⟨j, hj⟩ : ∃ j : Nat, j = k - 5 - cm - cg - cm * cr := ⟨_, rfl⟩
      rw [← hj]
      have hkj : (k : Int) - A = j := by omega
      rw [hkj]
      simp only [Option.map_some, firstS]
      refine congrArg some ?_
      by_cases m1 : j % 3 = 1
      · by_cases m2 : ((j / 3 : Nat) : Int) + 1 < cc
        · rw [if_pos ⟨by omega, m2⟩, if_pos ⟨by omega, by omega, by omega⟩]
          unfold cellW
          rw [if_pos (by omega)]
          omega
        · rw [if_neg (by omega), if_neg (by omega), if_neg (by omega)]
      · rw [if_neg (by omega), if_neg (by omega), if_neg (by omega)]
  · rw [List.getElem?_eq_none (by rw [allS_length]; omega), List.getElem?_eq_none (by unfold firstW; rw [firstTo_length, hn]; omega)]
    rfl

end Go.Proofs.Yteggckdgjecfmaa
