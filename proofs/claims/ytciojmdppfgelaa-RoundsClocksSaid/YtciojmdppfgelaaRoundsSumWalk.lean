/- mudlarklaw27.RoundsSum: the walk. -/
import Derived.Test.YtciojmdppfgelaaRoundsLaw
namespace Go.Proofs.Ytciojmdppfgelaa
open Go.RowKit
set_option linter.unusedVariables false
set_option linter.unusedSimpArgs false

abbrev i64s (l : List Int) : List Value := l.map (Value.int .i64)
theorem i64s_get (l : List Int) (k : Nat) (h : k < l.length) : (i64s l)[k]? = some (.int .i64 (l.getD k 0)) := by
  simp [List.getElem?_eq_getElem h, List.getD_eq_getElem?_getD]

structure Six (w : World) (kx mx ky my kz mz : Nat) : Prop where
  x1 : w.heap.size ≤ kx
  x2 : w.heap.size ≤ mx
  y1 : w.heap.size ≤ ky
  y2 : w.heap.size ≤ my
  z1 : w.heap.size ≤ kz
  z2 : w.heap.size ≤ mz
  xy : ky ∉ [kx, mx] ∧ my ∉ [kx, mx] ∧ kx ∉ [ky, my] ∧ mx ∉ [ky, my]
  xz : kz ∉ [kx, mx] ∧ mz ∉ [kx, mx] ∧ kx ∉ [kz, mz] ∧ mx ∉ [kz, mz]
  yz : kz ∉ [ky, my] ∧ mz ∉ [ky, my] ∧ ky ∉ [kz, mz] ∧ my ∉ [kz, mz]

set_option maxRecDepth 100000 in
set_option maxHeartbeats 4000000 in
theorem roundsSum_any (p : Int) (va vb : Value) (a b : List Int) (w : World) (hp : 0 ≤ p ∧ p ≤ 255) (ra : RdS w va a.length (i64s a)) (rb : RdS w vb b.length (i64s b)) :
    Calls Try.prog 3 #[.int .u8 p, va, vb] w fun e w' => e = .returned (.bool true) ∧ Fr [] w w' := by
  obtain ⟨ua, ca, rfl, hua⟩ := ra.elim
  obtain ⟨ub, cb, rfl, hub⟩ := rb.elim
  clear ra rb
  by_cases la : 300 < a.length
  · clear hua hub
    have la2 : (300 : Int) < (a.length : Int) := by omega
    go_enter Try.func3, Try.ntmps3
    go_wp2_with (first | (go_at_call 15; refine (awake27_any _).mono ?_; rintro e w2 ⟨rfl, hF2⟩))
    go_ret
    exact ⟨rfl, hF2⟩
  by_cases lb : 300 < b.length
  · clear hua hub
    have la2 : ¬ (300 : Int) < (a.length : Int) := by omega
    have lb2 : (300 : Int) < (b.length : Int) := by omega
    go_enter Try.func3, Try.ntmps3
    go_wp2_with (first | (go_at_call 15; refine (awake27_any _).mono ?_; rintro e w2 ⟨rfl, hF2⟩))
    go_ret
    exact ⟨rfl, hF2⟩
  have la2 : ¬ (300 : Int) < (a.length : Int) := by omega
  have lb2 : ¬ (300 : Int) < (b.length : Int) := by omega
  have HUA := hid hua
  have HUB := hid hub
  clear hua hub
  go_enter Try.func3, Try.ntmps3
  go_wp2_with (first | (go_at_call 15; refine (awake27_any _).mono ?_; rintro e w2 ⟨rfl, hF2⟩) | (go_at_call 16; (have hKy := hKy); refine (knew_any _ _).mono ?_; rintro e w5 ⟨rfl, hKz, hF5⟩) | (go_at_call 16; (have hKx := hKx); refine (knew_any _ _).mono ?_; rintro e w4 ⟨rfl, hKy, hF4⟩) | (go_at_call 16; refine (knew_any _ _).mono ?_; rintro e w3 ⟨rfl, hKx, hF3⟩))
  have hFF := ((hF2.trans hF3).trans hF4).trans hF5
  have s2 := hF2.size
  have s3 := hKx.blk.lt
  have s4 := hKy.blk.lt
  have hKx := (hKx.kept0 hF4).kept0 hF5
  have hKy := hKy.kept0 hF5
  obtain ⟨N, hN⟩ : ∃ N, N = p % 8 + 1 := ⟨_, rfl⟩
  rw [← hN] at hKx hKy hKz ⊢
  clear hN hp hF2 hF3 hF4 hF5
  have n1 : w3.heap.size + 1 ∉ [w2.heap.size + 1, w2.heap.size] ∧ w3.heap.size ∉ [w2.heap.size + 1, w2.heap.size] := by simp; omega
  have n2 : w4.heap.size + 1 ∉ [w2.heap.size + 1, w2.heap.size] ∧ w4.heap.size ∉ [w2.heap.size + 1, w2.heap.size] := by simp; omega
  have n3 : w4.heap.size + 1 ∉ [w3.heap.size + 1, w3.heap.size] ∧ w4.heap.size ∉ [w3.heap.size + 1, w3.heap.size] := by simp; omega
  have n4 : w2.heap.size + 1 ∉ [w4.heap.size + 1, w4.heap.size] ∧ w2.heap.size ∉ [w4.heap.size + 1, w4.heap.size] := by simp; omega
  have n5 : w3.heap.size + 1 ∉ [w4.heap.size + 1, w4.heap.size] ∧ w3.heap.size ∉ [w4.heap.size + 1, w4.heap.size] := by simp; omega
  have t1 : ∀ i, i ∈ [w2.heap.size + 1, w2.heap.size] → i < w.heap.size → i ∈ ([] : List Nat) := by intro i m l; simp at m; omega
  have t2 : ∀ i, i ∈ [w3.heap.size + 1, w3.heap.size] → i < w.heap.size → i ∈ ([] : List Nat) := by intro i m l; simp at m; omega
  have t3 : ∀ i, i ∈ [w4.heap.size + 1, w4.heap.size] → i < w.heap.size → i ∈ ([] : List Nat) := by intro i m l; simp at m; omega
  obtain ⟨kx, ekx⟩ : ∃ k, k = w2.heap.size + 1 := ⟨_, rfl⟩
  obtain ⟨mx, emx⟩ : ∃ k, k = w2.heap.size := ⟨_, rfl⟩
  obtain ⟨ky, eky⟩ : ∃ k, k = w3.heap.size + 1 := ⟨_, rfl⟩
  obtain ⟨my, emy⟩ : ∃ k, k = w3.heap.size := ⟨_, rfl⟩
  obtain ⟨kz, ekz⟩ : ∃ k, k = w4.heap.size + 1 := ⟨_, rfl⟩
  obtain ⟨mz, emz⟩ : ∃ k, k = w4.heap.size := ⟨_, rfl⟩
  rw [← ekx, ← eky, ← ekz]
  rw [← ekx, ← emx] at hKx n1 n2 n4 t1
  rw [← eky, ← emy] at hKy n1 n3 n5 t2
  rw [← ekz, ← emz] at hKz n2 n3 n4 n5 t3
  clear ekx emx eky emy ekz emz s2 s3 s4
  have n6 : kx ∉ [ky, my] ∧ mx ∉ [ky, my] := by simp at n1 ⊢; omega
  have N6 := hid n6
  have N1 := hid n1
  have N2 := hid n2
  have N3 := hid n3
  have N4 := hid n4
  have N5 := hid n5
  clear n1 n2 n3 n4 n5 n6
  go_loopw [11] (fun i wr => ∃ k : Nat, k ≤ a.length ∧ i = .int .i64 k ∧ KAt wr kx mx ((Clk.new N).ticks (a.take k)) ∧ KAt wr ky my (Clk.new N) ∧ KAt wr kz mz ((Clk.new N).ticks (a.take k)) ∧ Fr [] w wr) (fun i _ => a.length - (intOf i).toNat)
  case atStart => exact ⟨0, by omega, rfl, hKx, hKy, hKz, hFF⟩
  case round =>
    obtain ⟨k, hk, rfl, hX, hY, hZ, hFr⟩ := hrel
    by_cases hlt : k < a.length
    · obtain ⟨ab, ao, rfl, hab, hac⟩ := HUA.out (by omega)
      have hz := fun W (f : Fr [] w W) => (f.cell hab (by simp)).trans ((hac k (by simpa using hlt)).trans (i64s_get a k hlt))
      have hS := Clk.ticks_succ (Clk.new N) a k hlt
      have hb := Clk.ticks_n (a.take k) (Clk.new N) (by simp [Clk.new])
      rw [List.length_take] at hb
      simp only [show (Clk.new N).n = 0 from rfl] at hb
      obtain ⟨c, hc⟩ : ∃ c, c = (Clk.new N).ticks (a.take k) := ⟨_, rfl⟩
      obtain ⟨x, hx⟩ : ∃ x, x = a.getD k 0 := ⟨_, rfl⟩
      rw [← hx] at hS
      simp only [← hx] at hz
      rw [← hc] at hS hb hX hZ
      have ht := c.tick_n x (by omega)
      have HT := hid (fun (W : World) (k m : Nat) (hK : KAt W k m c) => ktick_any hK x (by omega))
      have HR1 := hid (fun (W : World) (k m : Nat) (hK : KAt W k m c) => krounds_any hK)
      have HR2 := hid (fun (W : World) (k m : Nat) (hK : KAt W k m (c.tick x)) => krounds_any hK)
      obtain ⟨c2, hc2⟩ : ∃ c2, c2 = c.tick x := ⟨_, rfl⟩
      rw [← hc2] at hS ht
      simp only [← hc2] at HT HR2
      obtain ⟨cn, hcn⟩ : ∃ n, n = c.n := ⟨_, rfl⟩
      obtain ⟨cn2, hcn2⟩ : ∃ n, n = c2.n := ⟨_, rfl⟩
      rw [← hcn] at ht hb
      rw [← hcn2] at ht
      simp only [← hcn] at HR1
      simp only [← hcn2] at HR2
      have HS := hid hS
      have hcell := hz _ hFr
      have HZ := hid hz
      clear hz hS hc hx hc2 hcn hcn2 hac
      go_wp2_with (first | (go_at_call 17; refine (HR2.out _ _ _ hZ2).mono ?_; rintro e w8 ⟨rfl, rfl⟩) | (go_at_call 17; refine (HR1.out _ _ _ hZ).mono ?_; rintro e w8 ⟨rfl, rfl⟩) | (go_at_call 18; (have hX2 := hX2); refine (HT.out _ _ _ hZ).mono ?_; rintro e w7 ⟨rfl, hZ2, hF7⟩; (have hX2 := hX2.kept hF7 N4.out.1 N4.out.2); (have hY := hY.kept hF7 N5.out.1 N5.out.2); (have hFr := hFr.trans_new hF7 t3)) | (go_at_call 18; refine (HT.out _ _ _ hX).mono ?_; rintro e w6 ⟨rfl, hX2, hF6⟩; (have hZ := hZ.kept hF6 N2.out.1 N2.out.2); (have hY := hY.kept hF6 N1.out.1 N1.out.2); (have hFr := hFr.trans_new hF6 t1); (have hcell := HZ.out _ hFr)))
      go_roundw
      case rel =>
        refine ⟨k + 1, by omega, by go_num, ?_, hY, ?_, hFr⟩
        · rw [HS.out]; exact hX2
        · rw [HS.out]; exact hZ2
      case measure => simp [intOf]; omega
    · obtain rfl : k = a.length := by omega
      rw [List.take_length] at hX hZ
      go_wp2_with fail
      go_loopw [13] (fun i wr => ∃ k : Nat, k ≤ b.length ∧ i = .int .i64 k ∧ KAt wr kx mx ((Clk.new N).ticks a) ∧ KAt wr ky my ((Clk.new N).ticks (b.take k)) ∧ KAt wr kz mz (((Clk.new N).ticks a).ticks (b.take k)) ∧ Fr [] w wr) (fun i _ => b.length - (intOf i).toNat)
      case atStart => exact ⟨0, by omega, rfl, hX, hY, hZ, hFr⟩
      case round =>
        obtain ⟨k, hk, rfl, hX, hY, hZ, hFr⟩ := hrel
        by_cases hlt : k < b.length
        · obtain ⟨bb, bo, rfl, hbb, hbc⟩ := HUB.out (by omega)
          have hz := fun W (f : Fr [] w W) => (f.cell hbb (by simp)).trans ((hbc k (by simpa using hlt)).trans (i64s_get b k hlt))
          have hS := Clk.ticks_succ (Clk.new N) b k hlt
          have hS2 := Clk.ticks_succ ((Clk.new N).ticks a) b k hlt
          have hb0 := Clk.ticks_n a (Clk.new N) (by simp [Clk.new])
          simp only [show (Clk.new N).n = 0 from rfl] at hb0
          have hb := Clk.ticks_n (b.take k) (Clk.new N) (by simp [Clk.new])
          have hb2 := Clk.ticks_n (b.take k) ((Clk.new N).ticks a) (by omega)
          rw [List.length_take] at hb hb2
          simp only [show (Clk.new N).n = 0 from rfl] at hb
          obtain ⟨c, hc⟩ : ∃ c, c = (Clk.new N).ticks (b.take k) := ⟨_, rfl⟩
          obtain ⟨d, hd⟩ : ∃ d, d = ((Clk.new N).ticks a).ticks (b.take k) := ⟨_, rfl⟩
          obtain ⟨x, hx⟩ : ∃ x, x = b.getD k 0 := ⟨_, rfl⟩
          rw [← hx] at hS hS2
          simp only [← hx] at hz
          rw [← hc] at hS hb hY
          rw [← hd] at hS2 hb2 hZ
          have HT := hid (fun (W : World) (k m : Nat) (hK : KAt W k m c) => ktick_any hK x (by omega))
          have HT2 := hid (fun (W : World) (k m : Nat) (hK : KAt W k m d) => ktick_any hK x (by omega))
          have HS := hid hS
          have HS2 := hid hS2
          have hcell := hz _ hFr
          have HZ := hid hz
          clear hz hS hS2 hc hd hx hbc hb hb2 hb0
          go_wp2_with (first | (go_at_call 18; (have hY2 := hY2); refine (HT2.out _ _ _ hZ).mono ?_; rintro e w7 ⟨rfl, hZ2, hF7⟩; (have hX := hX.kept hF7 N4.out.1 N4.out.2); (have hY2 := hY2.kept hF7 N5.out.1 N5.out.2); (have hFr := hFr.trans_new hF7 t3)) | (go_at_call 18; refine (HT.out _ _ _ hY).mono ?_; rintro e w6 ⟨rfl, hY2, hF6⟩; (have hZ := hZ.kept hF6 N3.out.1 N3.out.2); (have hX := hX.kept hF6 N6.out.1 N6.out.2); (have hFr := hFr.trans_new hF6 t2); (have hcell := HZ.out _ hFr)))
          go_roundw
          case rel =>
            refine ⟨k + 1, by omega, by go_num, hX, ?_, ?_, hFr⟩
            · rw [HS.out]; exact hY2
            · rw [HS2.out]; exact hZ2
          case measure => simp [intOf]; omega
        · obtain rfl : k = b.length := by omega
          rw [List.take_length] at hY hZ
          have hL := rounds_sum N a b
          have hb0 := Clk.ticks_n a (Clk.new N) (by simp [Clk.new])
          have hb1 := Clk.ticks_n b (Clk.new N) (by simp [Clk.new])
          simp only [show (Clk.new N).n = 0 from rfl] at hb0 hb1
          have HR1 := hid (krounds_any hX)
          have HR2 := hid (krounds_any hY)
          have HR3 := hid (krounds_any hZ)
          obtain ⟨n1, h1⟩ : ∃ n, n = ((Clk.new N).ticks a).n := ⟨_, rfl⟩
          obtain ⟨n2, h2⟩ : ∃ n, n = ((Clk.new N).ticks b).n := ⟨_, rfl⟩
          obtain ⟨n3, h3⟩ : ∃ n, n = (((Clk.new N).ticks a).ticks b).n := ⟨_, rfl⟩
          rw [← h1] at HR1 hL hb0
          rw [← h2] at HR2 hL hb1
          rw [← h3] at HR3 hL
          obtain ⟨hL1, hL2⟩ := hL
          clear h1 h2 h3 hX hY hZ hKx hKy hKz
          go_wp2_with (first | (go_at_call 17; refine HR1.out.mono ?_; rintro e w8 ⟨rfl, rfl⟩) | (go_at_call 17; refine HR2.out.mono ?_; rintro e w8 ⟨rfl, rfl⟩) | (go_at_call 17; refine HR3.out.mono ?_; rintro e w8 ⟨rfl, rfl⟩))
          go_ret
          exact ⟨rfl, hFr⟩

end Go.Proofs.Ytciojmdppfgelaa
