/- mudlarklaw27.awake. -/
import Derived.Test.YtciojmdppfgelaaClock
namespace Go.Proofs.Ytciojmdppfgelaa
open Go.RowKit
set_option linter.unusedVariables false
set_option linter.unusedSimpArgs false

def Clk.ticks (c : Clk) (l : List Int) : Clk := l.foldl Clk.tick c
theorem Clk.tick_n (c : Clk) (p : Int) (h : 0 ≤ c.n) : c.n ≤ (c.tick p).n ∧ (c.tick p).n ≤ c.n + 1 := by
  unfold Clk.tick
  split
  · omega
  · split <;> simp only <;> omega
theorem Clk.ticks_n (l : List Int) : ∀ (c : Clk), 0 ≤ c.n → c.n ≤ (c.ticks l).n ∧ (c.ticks l).n ≤ c.n + l.length := by
  induction l with
  | nil => intro c h; simp [Clk.ticks]
  | cons p l ih =>
    intro c h
    have h1 := c.tick_n p h
    have h2 := ih (c.tick p) (by omega)
    simp only [Clk.ticks, List.foldl_cons, List.length_cons] at h2 ⊢
    omega
theorem Clk.ticks_succ (c : Clk) (l : List Int) (i : Nat) (h : i < l.length) : c.ticks (l.take (i + 1)) = (c.ticks (l.take i)).tick (l.getD i 0) := by
  rw [List.take_succ_eq_append_getElem h, Clk.ticks, List.foldl_append]
  simp [Clk.ticks, List.getD_eq_getElem?_getD, List.getElem?_eq_getElem h]

def picksA : List Int := [0, 1, 0, 2, 2, 1, 0]

theorem awake27_any (w : World) :
    Calls Try.prog 15 #[] w fun e w' => e = .returned (.bool true) ∧ Fr [] w w' := by
  have HN := hid (fun W => knew_any 3 W)
  have hl7 : picksA.length = 7 := rfl
  have hlast : ((Clk.new 3).ticks (picksA.take 7)).n = 2 := by decide
  have HT := hid (fun (W : World) (k m i : Nat) (hi : i < 7) (hK : KAt W k m ((Clk.new 3).ticks (picksA.take i))) => ktick_any hK (picksA.getD i 0) (by have := Clk.ticks_n (picksA.take i) (Clk.new 3) (by decide); simp [Clk.new] at this; simp [Clk.new]; omega))
  have HS := hid (fun i (hi : i < 7) => Clk.ticks_succ (Clk.new 3) picksA i (by rw [hl7]; exact hi))
  have hget : ∀ i, i < 7 → [Value.int .i64 0, Value.int .i64 1, Value.int .i64 0, Value.int .i64 2, Value.int .i64 2, Value.int .i64 1, Value.int .i64 0][i]? = some (.int .i64 (picksA.getD i 0)) := by
    intro i hi
    have : i = 0 ∨ i = 1 ∨ i = 2 ∨ i = 3 ∨ i = 4 ∨ i = 5 ∨ i = 6 := by omega
    rcases this with rfl | rfl | rfl | rfl | rfl | rfl | rfl <;> rfl
  have HG := hid hget
  have HL := hid hlast
  clear hget hlast hl7
  go_enter Try.func15, Try.ntmps15
  go_wp2_with (first | (go_at_call 16; refine (HN.out _).mono ?_; rintro e w1 ⟨rfl, hK, hF⟩))
  have hK1 := hK.alloc (.cells #[.int .i64 0, .int .i64 1, .int .i64 0, .int .i64 2, .int .i64 2, .int .i64 1, .int .i64 0] 3)
  have hB1 := Blk.new w1 [.int .i64 0, .int .i64 1, .int .i64 0, .int .i64 2, .int .i64 2, .int .i64 1, .int .i64 0] 3
  have hF1 := hF.alloc (.cells #[.int .i64 0, .int .i64 1, .int .i64 0, .int .i64 2, .int .i64 2, .int .i64 1, .int .i64 0] 3)
  have ls := hK.blk.lt
  have nB : w1.heap.size ∉ [w.heap.size + 1, w.heap.size] := by simp; omega
  go_loopw [7] (fun i wr => ∃ k : Nat, k ≤ 7 ∧ i = .int .i64 k ∧ KAt wr (w.heap.size + 1) w.heap.size ((Clk.new 3).ticks (picksA.take k)) ∧ Blk wr w1.heap.size 3 [.int .i64 0, .int .i64 1, .int .i64 0, .int .i64 2, .int .i64 2, .int .i64 1, .int .i64 0] ∧ Fr [] w wr) (fun i _ => 7 - (intOf i).toNat)
  case atStart => exact ⟨0, by omega, rfl, hK1, hB1, hF1⟩
  case round =>
    obtain ⟨k, hk, rfl, hK2, hB2, hFr⟩ := hrel
    by_cases hlt : k < 7
    · have hT := HT.out wr _ _ k hlt hK2
      have hS := HS.out k hlt
      obtain ⟨c, hc⟩ : ∃ c, c = (Clk.new 3).ticks (picksA.take k) := ⟨_, rfl⟩
      have hz : wr.cell? ⟨w1.heap.size, k, none⟩ = some (.int .i64 (picksA.getD k 0)) := (hB2.cell k).trans (HG.out k hlt)
      obtain ⟨x, hx⟩ : ∃ x, x = picksA.getD k 0 := ⟨_, rfl⟩
      rw [← hx] at hT hz hS
      rw [← hc] at hT hS
      have HT2 := hid hT
      have HS2 := hid hS
      clear hS hT hx hc
      go_wp2_with (first | (go_at_call 18; refine HT2.out.mono ?_; rintro e w2 ⟨rfl, hK3, hF3⟩))
      go_roundw
      case rel =>
        refine ⟨k + 1, by omega, by go_num, ?_, hB2.kept hF3 nB, hFr.trans_new hF3 (by intro i m l; simp at m; omega)⟩
        rw [HS2.out]; exact hK3
      case measure => simp [intOf]; omega
    · obtain rfl : k = 7 := by omega
      have hR := krounds_any hK2
      rw [HL.out] at hR
      have HR := hid hR
      clear hR
      go_wp2_with (first | (go_at_call 17; refine HR.out.mono ?_; rintro e w2 ⟨rfl, rfl⟩))
      go_ret
      exact ⟨rfl, hFr⟩

end Go.Proofs.Ytciojmdppfgelaa
