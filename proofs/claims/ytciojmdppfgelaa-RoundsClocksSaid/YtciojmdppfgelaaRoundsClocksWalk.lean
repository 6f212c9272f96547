/- mudlarklaw27.RoundsClocks: the walk. -/
import Derived.Test.YtciojmdppfgelaaRef27Walk
namespace Go.Proofs.Ytciojmdppfgelaa
open Go.RowKit
set_option linter.unusedVariables false
set_option linter.unusedSimpArgs false

theorem Clk.reset (P : Int) (l : List Int) : (⟨((Clk.new P).ticks l).procs, [], 0⟩ : Clk) = Clk.new P := by
  rw [Clk.ticks_procs]; rfl

theorem drop_take_succ (l : List Int) (k f : Nat) (hk : k < l.length) (hf : f ≤ k) : (l.take (k + 1)).drop f = (l.take k).drop f ++ [l.getD k 0] := by
  rw [List.take_succ_eq_append_getElem hk, List.drop_append_of_le_length (by simp; omega)]
  simp [List.getD_eq_getElem?_getD, List.getElem?_eq_getElem hk]

/-- What a round of the law needs to know of a clock and the picks since it was set. -/
theorem rclocks_facts {W0 : World} (P : Int) (l : List Int) (k f : Nat) (hk : k < l.length) (hf : f ≤ k) (hl : l.length ≤ 300) :
    ∃ (c c2 : Clk) (x cn cn2 : Int), Hid (c = (Clk.new P).ticks ((l.take k).drop f)) ∧ Hid (c2 = (Clk.new P).ticks ((l.take (k + 1)).drop f)) ∧ x = l.getD k 0 ∧ 0 ≤ cn ∧ cn ≤ 300 ∧ cn ≤ cn2 ∧ cn2 ≤ cn + 1 ∧
      Hid (∀ W k m, KAt W k m c → Calls Try.prog 18 #[.pointer (some ⟨k, 0, none⟩), .int .i64 x] W fun e w' => e = .returned (.bool (decide (cn < cn2))) ∧ KAt w' k m c2 ∧ Fr [k, m] W w') ∧
      Hid (∀ W k m, KAt W k m c → Calls Try.prog 17 #[.pointer (some ⟨k, 0, none⟩)] W fun e w' => e = .returned (.int .i64 cn) ∧ W = w') ∧
      Hid (∀ W k m, KAt W k m c2 → Calls Try.prog 17 #[.pointer (some ⟨k, 0, none⟩)] W fun e w' => e = .returned (.int .i64 cn2) ∧ W = w') ∧
      R27 (min P 200) ((l.take (k + 1)).drop f) = cn2 := by
  have hb := Clk.ticks_n ((l.take k).drop f) (Clk.new P) (by simp [Clk.new])
  rw [List.length_drop, List.length_take] at hb
  simp only [show (Clk.new P).n = 0 from rfl] at hb
  have hst : (Clk.new P).ticks ((l.take (k + 1)).drop f) = ((Clk.new P).ticks ((l.take k).drop f)).tick (l.getD k 0) := by
    rw [drop_take_succ l k f hk hf, Clk.ticks, List.foldl_append]
    rfl
  have hr := clock27 P ((l.take (k + 1)).drop f)
  have ht := ((Clk.new P).ticks ((l.take k).drop f)).tick_n (l.getD k 0) (by omega)
  refine ⟨_, _, _, _, _, rfl, rfl, rfl, ?_, ?_, ?_, ?_, ?_, fun W k m h => krounds_any h, fun W k m h => krounds_any h, hr.symm⟩
  · omega
  · omega
  · rw [hst]; exact ht.1
  · rw [hst]; exact ht.2
  · intro W kk m h
    have := ktick_any h (l.getD k 0) (by omega)
    rw [Clk.over_n, ← hst] at this
    exact this

set_option maxRecDepth 100000 in
set_option maxHeartbeats 1000000 in
theorem roundsClocks_any (P : Int) (ua : Option Addr) (ca : Nat) (l : List Int) (t : Int) (w : World) (ht : 0 ≤ t ∧ t ≤ 65535) (ra : RdS w (.slice ua l.length ca) l.length (i64s l)) (hcap : l.length ≤ ca) :
    Calls Try.prog 4 #[.int .i64 P, .slice ua l.length ca, .int .u16 t] w fun e w' => e = .returned (.bool true) ∧ Fr [] w w' := by
  obtain ⟨ua', ca', he, hua⟩ := ra.elim
  simp only [Value.slice.injEq] at he
  obtain ⟨rfl, _, rfl⟩ := he
  clear ra
  by_cases la : 300 < l.length
  · clear hua hcap
    have la2 : (300 : Int) < (l.length : Int) := by omega
    go_enter Try.func4, Try.ntmps4
    go_wp2_with (first | (go_at_call 15; with_reducible refine (awake27_any _).mono ?_; rintro e w2 ⟨rfl, hF2⟩))
    go_ret
    exact ⟨rfl, hF2⟩
  have la2 : ¬ (300 : Int) < (l.length : Int) := by omega
  have HUA := hid hua
  have HCap := hid hcap
  clear hua hcap
  by_cases hP : P ≤ 200
  · have hM := hid (show min P 200 = P by omega)
    go_enter Try.func4, Try.ntmps4
    go_wp2_with (first | (go_at_call 15; with_reducible refine (awake27_any _).mono ?_; rintro e w2 ⟨rfl, hF2⟩) | (go_at_call 19; with_reducible refine (kset_nil _).mono ?_; rintro e w3 ⟨rfl, rfl⟩) | (go_at_call 16; with_reducible refine (knew_any _ _).mono ?_; rintro e w3 ⟨rfl, hK, hF3⟩))
    have hFF := hF2.trans hF3
    have s2 := hF2.size
    have t1 : ∀ i, i ∈ [w2.heap.size + 1, w2.heap.size] → i < w.heap.size → i ∈ ([] : List Nat) := by intro i m l; simp at m; omega
    obtain ⟨kx, ekx⟩ : ∃ k, k = w2.heap.size + 1 := ⟨_, rfl⟩
    obtain ⟨mx, emx⟩ : ∃ k, k = w2.heap.size := ⟨_, rfl⟩
    rw [← ekx]
    rw [← ekx, ← emx] at hK t1
    clear ekx emx s2 hF2 hF3
    have T1 := hid t1
    go_loopw [9, 11] (fun fr i wr => ∃ k f : Nat, k ≤ l.length ∧ f ≤ k ∧ i = .int .i64 k ∧ fr = .int .i64 f ∧ KAt wr kx mx ((Clk.new P).ticks ((l.take k).drop f)) ∧ Fr [] w wr) (fun _ i _ => l.length - (intOf i).toNat)
    case atStart => exact ⟨0, 0, by omega, by omega, rfl, rfl, hK, hFF⟩
    case round =>
      obtain ⟨k, f, hk, hf, rfl, rfl, hX, hFr⟩ := hrel
      by_cases hlt : k < l.length
      · obtain ⟨ab, ao, rfl, hab, hac⟩ := HUA.out (by omega)
        by_cases hat : (k : Int) = t % 400
        · have hat2 : ((k : Int) == t % 400) = true := by simpa using hat
          clear hat
          obtain ⟨c, c2, x, cn, cn2, HC, HC2, hx, b0, b1, b2, b3, HT, HR1, HR2, hR⟩ := rclocks_facts (W0 := w) P l k k hlt (by omega) (by omega)
          have hz := fun W (f : Fr [] w W) => (f.cell hab (by simp)).trans ((hac k (by simpa using hlt)).trans (i64s_get l k hlt))
          simp only [← hx] at hz
          have hcap := HCap.out
          have HRf := hid (fun W (f2 : Fr [] w W) (n' c' : Nat) (hn' : n' = k + 1 - k) (hc' : c' = ca - k) => rounds27_any (w := W) (b := ab) (o := ao + k) (n := n') (ca := c') (l := (l.take (k + 1)).drop k) (by rw [List.length_drop, List.length_take]; omega) (Nat.lt_of_lt_of_le hab f2.size) (by
            intro j hj
            rw [List.length_drop, List.length_take] at hj
            have := (f2.cell (o := ao + (k + j)) hab (by simp)).trans ((hac (k + j) (by simp only [List.length_map]; omega)).trans (i64s_get l (k + j) (by omega)))
            rw [Nat.add_assoc, this]
            simp only [List.getD_eq_getElem?_getD]
            rw [List.getElem?_drop, List.getElem?_take, if_pos (by omega)]) (min P 200) (by omega) (by rw [List.length_drop, List.length_take]; omega) (by rw [List.length_drop, List.length_take]; omega))
          rw [hM.out] at hR
          simp only [hM.out, hR] at HRf
          have hX0 := hX
          have hXe : ∀ {W : World}, KAt W kx mx (Clk.new P) → KAt W kx mx c := by
            intro W h
            rw [HC.out, List.drop_of_length_le (by rw [List.length_take]; omega)]
            exact h
          clear hX
          have hcell := hz _ hFr
          have HZ := hid hz
          have c1 : (0 : Int) ≤ (k : Int) := by omega
          have c2' : (k : Int) ≤ (k : Int) + 1 := by omega
          have c3 : (k : Int) + 1 ≤ (ca : Int) := by have := HCap.out; omega
          have hdd : (decide (cn < cn2) != decide (cn < cn2)) = false := by simp
          clear hz hx hR hac hcap
          go_wp2_with (first | (go_at_call 19; with_reducible refine (kset_any hX0).mono ?_; rintro e w5 ⟨rfl, hX, hF5⟩; rw [Clk.reset] at hX; (have hX := hXe hX); (have hFr := hFr.trans_new hF5 t1); (have hcell := HZ.out _ hFr)) | (go_at_call 17; with_reducible refine (krounds_nil _).mono ?_; rintro e w8 ⟨rfl, rfl⟩) | (go_at_call 18; with_reducible refine (ktick_nil _ _).mono ?_; rintro e w8 ⟨rfl, rfl⟩) | (go_at_call 17; with_reducible refine (HR2.out _ _ _ hX2).mono ?_; rintro e w8 ⟨rfl, rfl⟩) | (go_at_call 17; with_reducible refine (HR1.out _ _ _ hX).mono ?_; rintro e w8 ⟨rfl, rfl⟩) | (go_at_call 18; with_reducible refine (HT.out _ _ _ hX).mono ?_; rintro e w6 ⟨rfl, hX2, hF6⟩; (have hFr := hFr.trans_new hF6 t1); (have hcell := HZ.out _ hFr)) | (go_at_call 20; with_reducible refine (HRf.out _ hFr _ _ (by omega) (by omega)).mono ?_; rintro e w8 ⟨rfl, rfl⟩))
          go_roundw
          case rel =>
            refine ⟨k + 1, k, by omega, by omega, by go_num, rfl, ?_, hFr⟩
            rw [← HC2.out]; exact hX2
          case measure => simp [intOf]; omega
        · have hat2 : ((k : Int) == t % 400) = false := by simpa using hat
          clear hat
          obtain ⟨c, c2, x, cn, cn2, HC, HC2, hx, b0, b1, b2, b3, HT, HR1, HR2, hR⟩ := rclocks_facts (W0 := w) P l k f hlt (by omega) (by omega)
          have hz := fun W (f : Fr [] w W) => (f.cell hab (by simp)).trans ((hac k (by simpa using hlt)).trans (i64s_get l k hlt))
          simp only [← hx] at hz
          have hcap := HCap.out
          have HRf := hid (fun W (f2 : Fr [] w W) (n' c' : Nat) (hn' : n' = k + 1 - f) (hc' : c' = ca - f) => rounds27_any (w := W) (b := ab) (o := ao + f) (n := n') (ca := c') (l := (l.take (k + 1)).drop f) (by rw [List.length_drop, List.length_take]; omega) (Nat.lt_of_lt_of_le hab f2.size) (by
            intro j hj
            rw [List.length_drop, List.length_take] at hj
            have := (f2.cell (o := ao + (f + j)) hab (by simp)).trans ((hac (f + j) (by simp only [List.length_map]; omega)).trans (i64s_get l (f + j) (by omega)))
            rw [Nat.add_assoc, this]
            simp only [List.getD_eq_getElem?_getD]
            rw [List.getElem?_drop, List.getElem?_take, if_pos (by omega)]) (min P 200) (by omega) (by rw [List.length_drop, List.length_take]; omega) (by rw [List.length_drop, List.length_take]; omega))
          rw [hM.out] at hR
          simp only [hM.out, hR] at HRf
          rw [← HC.out] at hX
          have hcell := hz _ hFr
          have HZ := hid hz
          have c1 : (0 : Int) ≤ (f : Int) := by omega
          have c2' : (f : Int) ≤ (k : Int) + 1 := by omega
          have c3 : (k : Int) + 1 ≤ (ca : Int) := by have := HCap.out; omega
          have hdd : (decide (cn < cn2) != decide (cn < cn2)) = false := by simp
          clear hz hx hR hac hcap
          go_wp2_with (first | (go_at_call 17; with_reducible refine (krounds_nil _).mono ?_; rintro e w8 ⟨rfl, rfl⟩) | (go_at_call 18; with_reducible refine (ktick_nil _ _).mono ?_; rintro e w8 ⟨rfl, rfl⟩) | (go_at_call 17; with_reducible refine (HR2.out _ _ _ hX2).mono ?_; rintro e w8 ⟨rfl, rfl⟩) | (go_at_call 17; with_reducible refine (HR1.out _ _ _ hX).mono ?_; rintro e w8 ⟨rfl, rfl⟩) | (go_at_call 18; with_reducible refine (HT.out _ _ _ hX).mono ?_; rintro e w6 ⟨rfl, hX2, hF6⟩; (have hFr := hFr.trans_new hF6 t1); (have hcell := HZ.out _ hFr)) | (go_at_call 20; with_reducible refine (HRf.out _ hFr _ _ (by omega) (by omega)).mono ?_; rintro e w8 ⟨rfl, rfl⟩))
          go_roundw
          case rel =>
            refine ⟨k + 1, f, by omega, by omega, by go_num, rfl, ?_, hFr⟩
            rw [← HC2.out]; exact hX2
          case measure => simp [intOf]; omega
      · obtain rfl : k = l.length := by omega
        go_wp2
        go_ret
        exact ⟨rfl, hFr⟩
  · have hM := hid (show min P 200 = 200 by omega)
    go_enter Try.func4, Try.ntmps4
    go_wp2_with (first | (go_at_call 15; with_reducible refine (awake27_any _).mono ?_; rintro e w2 ⟨rfl, hF2⟩) | (go_at_call 19; with_reducible refine (kset_nil _).mono ?_; rintro e w3 ⟨rfl, rfl⟩) | (go_at_call 16; with_reducible refine (knew_any _ _).mono ?_; rintro e w3 ⟨rfl, hK, hF3⟩))
    have hFF := hF2.trans hF3
    have s2 := hF2.size
    have t1 : ∀ i, i ∈ [w2.heap.size + 1, w2.heap.size] → i < w.heap.size → i ∈ ([] : List Nat) := by intro i m l; simp at m; omega
    obtain ⟨kx, ekx⟩ : ∃ k, k = w2.heap.size + 1 := ⟨_, rfl⟩
    obtain ⟨mx, emx⟩ : ∃ k, k = w2.heap.size := ⟨_, rfl⟩
    rw [← ekx]
    rw [← ekx, ← emx] at hK t1
    clear ekx emx s2 hF2 hF3
    have T1 := hid t1
    go_loopw [9, 11] (fun fr i wr => ∃ k f : Nat, k ≤ l.length ∧ f ≤ k ∧ i = .int .i64 k ∧ fr = .int .i64 f ∧ KAt wr kx mx ((Clk.new P).ticks ((l.take k).drop f)) ∧ Fr [] w wr) (fun _ i _ => l.length - (intOf i).toNat)
    case atStart => exact ⟨0, 0, by omega, by omega, rfl, rfl, hK, hFF⟩
    case round =>
      obtain ⟨k, f, hk, hf, rfl, rfl, hX, hFr⟩ := hrel
      by_cases hlt : k < l.length
      · obtain ⟨ab, ao, rfl, hab, hac⟩ := HUA.out (by omega)
        by_cases hat : (k : Int) = t % 400
        · have hat2 : ((k : Int) == t % 400) = true := by simpa using hat
          clear hat
          obtain ⟨c, c2, x, cn, cn2, HC, HC2, hx, b0, b1, b2, b3, HT, HR1, HR2, hR⟩ := rclocks_facts (W0 := w) P l k k hlt (by omega) (by omega)
          have hz := fun W (f : Fr [] w W) => (f.cell hab (by simp)).trans ((hac k (by simpa using hlt)).trans (i64s_get l k hlt))
          simp only [← hx] at hz
          have hcap := HCap.out
          have HRf := hid (fun W (f2 : Fr [] w W) (n' c' : Nat) (hn' : n' = k + 1 - k) (hc' : c' = ca - k) => rounds27_any (w := W) (b := ab) (o := ao + k) (n := n') (ca := c') (l := (l.take (k + 1)).drop k) (by rw [List.length_drop, List.length_take]; omega) (Nat.lt_of_lt_of_le hab f2.size) (by
            intro j hj
            rw [List.length_drop, List.length_take] at hj
            have := (f2.cell (o := ao + (k + j)) hab (by simp)).trans ((hac (k + j) (by simp only [List.length_map]; omega)).trans (i64s_get l (k + j) (by omega)))
            rw [Nat.add_assoc, this]
            simp only [List.getD_eq_getElem?_getD]
            rw [List.getElem?_drop, List.getElem?_take, if_pos (by omega)]) (min P 200) (by omega) (by rw [List.length_drop, List.length_take]; omega) (by rw [List.length_drop, List.length_take]; omega))
          rw [hM.out] at hR
          simp only [hM.out, hR] at HRf
          have hX0 := hX
          have hXe : ∀ {W : World}, KAt W kx mx (Clk.new P) → KAt W kx mx c := by
            intro W h
            rw [HC.out, List.drop_of_length_le (by rw [List.length_take]; omega)]
            exact h
          clear hX
          have hcell := hz _ hFr
          have HZ := hid hz
          have c1 : (0 : Int) ≤ (k : Int) := by omega
          have c2' : (k : Int) ≤ (k : Int) + 1 := by omega
          have c3 : (k : Int) + 1 ≤ (ca : Int) := by have := HCap.out; omega
          have hdd : (decide (cn < cn2) != decide (cn < cn2)) = false := by simp
          clear hz hx hR hac hcap
          go_wp2_with (first | (go_at_call 19; with_reducible refine (kset_any hX0).mono ?_; rintro e w5 ⟨rfl, hX, hF5⟩; rw [Clk.reset] at hX; (have hX := hXe hX); (have hFr := hFr.trans_new hF5 t1); (have hcell := HZ.out _ hFr)) | (go_at_call 17; with_reducible refine (krounds_nil _).mono ?_; rintro e w8 ⟨rfl, rfl⟩) | (go_at_call 18; with_reducible refine (ktick_nil _ _).mono ?_; rintro e w8 ⟨rfl, rfl⟩) | (go_at_call 17; with_reducible refine (HR2.out _ _ _ hX2).mono ?_; rintro e w8 ⟨rfl, rfl⟩) | (go_at_call 17; with_reducible refine (HR1.out _ _ _ hX).mono ?_; rintro e w8 ⟨rfl, rfl⟩) | (go_at_call 18; with_reducible refine (HT.out _ _ _ hX).mono ?_; rintro e w6 ⟨rfl, hX2, hF6⟩; (have hFr := hFr.trans_new hF6 t1); (have hcell := HZ.out _ hFr)) | (go_at_call 20; with_reducible refine (HRf.out _ hFr _ _ (by omega) (by omega)).mono ?_; rintro e w8 ⟨rfl, rfl⟩))
          go_roundw
          case rel =>
            refine ⟨k + 1, k, by omega, by omega, by go_num, rfl, ?_, hFr⟩
            rw [← HC2.out]; exact hX2
          case measure => simp [intOf]; omega
        · have hat2 : ((k : Int) == t % 400) = false := by simpa using hat
          clear hat
          obtain ⟨c, c2, x, cn, cn2, HC, HC2, hx, b0, b1, b2, b3, HT, HR1, HR2, hR⟩ := rclocks_facts (W0 := w) P l k f hlt (by omega) (by omega)
          have hz := fun W (f : Fr [] w W) => (f.cell hab (by simp)).trans ((hac k (by simpa using hlt)).trans (i64s_get l k hlt))
          simp only [← hx] at hz
          have hcap := HCap.out
          have HRf := hid (fun W (f2 : Fr [] w W) (n' c' : Nat) (hn' : n' = k + 1 - f) (hc' : c' = ca - f) => rounds27_any (w := W) (b := ab) (o := ao + f) (n := n') (ca := c') (l := (l.take (k + 1)).drop f) (by rw [List.length_drop, List.length_take]; omega) (Nat.lt_of_lt_of_le hab f2.size) (by
            intro j hj
            rw [List.length_drop, List.length_take] at hj
            have := (f2.cell (o := ao + (f + j)) hab (by simp)).trans ((hac (f + j) (by simp only [List.length_map]; omega)).trans (i64s_get l (f + j) (by omega)))
            rw [Nat.add_assoc, this]
            simp only [List.getD_eq_getElem?_getD]
            rw [List.getElem?_drop, List.getElem?_take, if_pos (by omega)]) (min P 200) (by omega) (by rw [List.length_drop, List.length_take]; omega) (by rw [List.length_drop, List.length_take]; omega))
          rw [hM.out] at hR
          simp only [hM.out, hR] at HRf
          rw [← HC.out] at hX
          have hcell := hz _ hFr
          have HZ := hid hz
          have c1 : (0 : Int) ≤ (f : Int) := by omega
          have c2' : (f : Int) ≤ (k : Int) + 1 := by omega
          have c3 : (k : Int) + 1 ≤ (ca : Int) := by have := HCap.out; omega
          have hdd : (decide (cn < cn2) != decide (cn < cn2)) = false := by simp
          clear hz hx hR hac hcap
          go_wp2_with (first | (go_at_call 17; with_reducible refine (krounds_nil _).mono ?_; rintro e w8 ⟨rfl, rfl⟩) | (go_at_call 18; with_reducible refine (ktick_nil _ _).mono ?_; rintro e w8 ⟨rfl, rfl⟩) | (go_at_call 17; with_reducible refine (HR2.out _ _ _ hX2).mono ?_; rintro e w8 ⟨rfl, rfl⟩) | (go_at_call 17; with_reducible refine (HR1.out _ _ _ hX).mono ?_; rintro e w8 ⟨rfl, rfl⟩) | (go_at_call 18; with_reducible refine (HT.out _ _ _ hX).mono ?_; rintro e w6 ⟨rfl, hX2, hF6⟩; (have hFr := hFr.trans_new hF6 t1); (have hcell := HZ.out _ hFr)) | (go_at_call 20; with_reducible refine (HRf.out _ hFr _ _ (by omega) (by omega)).mono ?_; rintro e w8 ⟨rfl, rfl⟩))
          go_roundw
          case rel =>
            refine ⟨k + 1, f, by omega, by omega, by go_num, rfl, ?_, hFr⟩
            rw [← HC2.out]; exact hX2
          case measure => simp [intOf]; omega
      · obtain rfl : k = l.length := by omega
        go_wp2
        go_ret
        exact ⟨rfl, hFr⟩

end Go.Proofs.Ytciojmdppfgelaa
