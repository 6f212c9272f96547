/- mudlarkref27.Rounds: the walk. -/
import Derived.Test.YtciojmdppfgelaaRef27
namespace Go.Proofs.Ytciojmdppfgelaa
open Go.RowKit
set_option linter.unusedVariables false
set_option linter.unusedSimpArgs false

theorem rounds27_any {w : World} {b o n ca : Nat} {l : List Int} (hn : n = l.length) (hlt : b < w.heap.size) (hc : ∀ j, j < l.length → w.cell? ⟨b, o + j, none⟩ = some (.int .i64 (l.getD j 0))) (procs : Int) (hp : procs ≤ 1000) (hl : l.length ≤ 1000) (hcap : l.length ≤ ca) :
    Calls Try.prog 20 #[.int .i64 procs, .slice (some ⟨b, o, none⟩) n ca] w fun e w' => e = .returned (.int .i64 (R27 procs l)) ∧ w = w' := by
  subst hn
  unfold R27
  by_cases h1 : procs < 1
  · rw [if_pos h1]
    clear hc
    go_enter Try.func20, Try.ntmps20
    go_wp2
    go_ret
    exact ⟨rfl, rfl⟩
  rw [if_neg h1]
  have HC := hid hc
  have HA := hid (fun (f k n : Nat) (hf : f ≤ k) (hk : k < l.length) (hn : n = k + 1 - f) (c : Nat) => (by
    have e : ((l.take (k + 1)).drop f).length = n := by rw [List.length_drop, List.length_take]; omega
    have := all27_any (w := w) (v := .slice (some ⟨b, o + f, none⟩) n c) (l := (l.take (k + 1)).drop f) (by
      rw [e]
      refine .inr ⟨b, o + f, c, rfl, hlt, fun j hj => ?_⟩
      simp only [List.length_map] at hj
      rw [e] at hj
      have := hc (f + j) (by omega)
      rw [Nat.add_assoc, this, i64s_get _ _ (by rw [e]; exact hj)]
      simp only [List.getD_eq_getElem?_getD]
      rw [List.getElem?_drop, List.getElem?_take, if_pos (by omega)]) procs hp (by rw [e]; omega)
    exact this : Calls Try.prog 71 #[.int .i64 procs, .slice (some ⟨b, o + f, none⟩) n c] w fun e w' => e = .returned (.bool (decide (allIn procs ((l.take (k + 1)).drop f)))) ∧ w = w'))
  obtain ⟨z, hz⟩ : ∃ z, z = (l.foldl (r27 procs) (0, [])).1 := ⟨_, rfl⟩
  rw [← hz]
  have HZ := hid hz
  clear hz hc
  go_enter Try.func20, Try.ntmps20
  go_wp2_with fail
  go_loopw [5, 6, 7] (fun a5 a6 i wr => ∃ k f : Nat, k ≤ l.length ∧ f ≤ k ∧ i = .int .i64 k ∧ a6 = .int .i64 f ∧ a5 = .int .i64 ((l.take k).foldl (r27 procs) (0, [])).1 ∧ ((l.take k).foldl (r27 procs) (0, [])).2 = (l.take k).drop f ∧ 0 ≤ ((l.take k).foldl (r27 procs) (0, [])).1 ∧ ((l.take k).foldl (r27 procs) (0, [])).1 ≤ k ∧ wr = w) (fun _ _ i _ => l.length - (intOf i).toNat)
  case atStart => exact ⟨0, 0, by omega, by omega, rfl, rfl, rfl, by simp, by simp, by simp, rfl⟩
  case round =>
    obtain ⟨k, f, hk, hf, rfl, rfl, rfl, h2, h3, h4, rfl⟩ := hrel
    by_cases hlt2 : k < l.length
    · have hs := r27_succ procs l k hlt2
      have e : (l.take (k + 1)).drop f = (l.take k).drop f ++ [l.getD k 0] := by
        rw [List.take_succ_eq_append_getElem hlt2, List.drop_append_of_le_length (by simp; omega)]
        simp [List.getD_eq_getElem?_getD, List.getElem?_eq_getElem hlt2]
      obtain ⟨s, hss⟩ : ∃ s, s = (l.take k).foldl (r27 procs) (0, []) := ⟨_, rfl⟩
      rw [← hss] at hs h2 h3 h4 ⊢
      obtain ⟨t, ht⟩ : ∃ t, t = (l.take (k + 1)).foldl (r27 procs) (0, []) := ⟨_, rfl⟩
      rw [← ht] at hs
      have HT := hid ht
      clear ht
      unfold r27 at hs
      rw [h2, ← e] at hs
      have HA := hid (HA.out f k (k + 1 - f) hf hlt2 rfl)
      have HE := hid h2
      obtain ⟨L, hL⟩ : ∃ L, L = (l.take (k + 1)).drop f := ⟨_, rfl⟩
      rw [← hL] at HA hs
      have HL := hid hL
      have HSS := hid hss
      clear hL hss e h2
      obtain ⟨s1, s2⟩ := s
      simp only at hs h3 h4 ⊢
      have f1 : (0 : Int) ≤ (f : Int) := by omega
      have f2 : (f : Int) ≤ (k : Int) + 1 := by omega
      have f3 : (k : Int) + 1 ≤ (ca : Int) := by omega
      by_cases ha : allIn procs L
      · rw [if_pos ha] at hs
        have hd : decide (allIn procs L) = true := by simpa using ha
        rw [hd] at HA
        have HS := hid hs
        clear hs hd ha
        go_wp2_with (first | (go_at_call 71; refine (HA.out _).mono ?_; rintro e w3 ⟨rfl, rfl⟩))
        go_roundw
        case rel =>
          refine ⟨k + 1, k + 1, by omega, by omega, by go_num, by go_num, ?_, ?_, ?_, ?_, trivial⟩
          · rw [← HT.out, HS.out]
          · rw [← HT.out, HS.out, List.drop_of_length_le (by rw [List.length_take]; omega)]
          · rw [← HT.out, HS.out]; simp only; omega
          · rw [← HT.out, HS.out]; simp only; omega
        case measure => simp [intOf]; omega
      · rw [if_neg ha] at hs
        have hd : decide (allIn procs L) = false := by simpa using ha
        rw [hd] at HA
        have HS := hid hs
        clear hs hd ha
        go_wp2_with (first | (go_at_call 71; refine (HA.out _).mono ?_; rintro e w3 ⟨rfl, rfl⟩))
        go_roundw
        case rel =>
          refine ⟨k + 1, f, by omega, by omega, by go_num, rfl, ?_, ?_, ?_, ?_, trivial⟩
          · rw [← HT.out, HS.out]
          · rw [← HT.out, HS.out, HL.out]
          · rw [← HT.out, HS.out]; exact h3
          · rw [← HT.out, HS.out]; simp only; omega
        case measure => simp [intOf]; omega
    · obtain rfl : k = l.length := by omega
      rw [List.take_length]
      rw [← HZ.out]
      clear h2 h3 h4
      go_wp2
      go_ret
      exact ⟨rfl, rfl⟩

end Go.Proofs.Ytciojmdppfgelaa
