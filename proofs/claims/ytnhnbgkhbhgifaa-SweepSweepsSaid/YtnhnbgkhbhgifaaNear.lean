/- Numbers of a collector within a million: mudlarkref15.Far. -/
import Derived.Test.YtnhnbgkhbhgifaaPlain
import Derived.Test.YtnhnbgkhbhgifaaColV
namespace Go.Proofs.Ytnhnbgkhbhgifaa
open Go.RowKit
set_option linter.unusedVariables false
set_option linter.unusedSimpArgs false

def nearN (a : Int) : Bool := decide (-1000000 ≤ a) && decide (a ≤ 1000000)
theorem nearN_iff (a : Int) : nearN a = true ↔ -1000000 ≤ a ∧ a ≤ 1000000 := by simp [nearN]
def nearL (x : ColV) : List Int := [x.j, x.c, x.m, x.tail, x.cyc]
def ColV.near (x : ColV) : Bool := (nearL x).all nearN
theorem ColV.near_iff (x : ColV) : x.near = true ↔ x.Near := by
  simp only [ColV.near, nearL, List.all_cons, List.all_nil, Bool.and_true, Bool.and_eq_true, nearN_iff]
  exact ⟨fun ⟨a, b, c, d, e⟩ => ⟨a, b, c, d, e⟩, fun ⟨a, b, c, d, e⟩ => ⟨a, b, c, d, e⟩⟩

theorem Blk.congr {w : World} {b : Nat} {t : TypeId} {cs ds : List Value} (h : Blk w b t cs) (e : cs = ds) : Blk w b t ds := e ▸ h
theorem far_any (x : ColV) (w : World) : Calls Try.prog 79 #[x.val] w fun e w' => e = .returned (.bool (!x.near)) ∧ Fr [] w w' := by
  obtain ⟨q, hq⟩ : ∃ q, q = x.near := ⟨_, rfl⟩
  obtain ⟨L, hL⟩ : ∃ L, L = nearL x := ⟨_, rfl⟩
  have hN : q = L.all nearN := by rw [hq, hL]; rfl
  rw [← hq]
  replace hN := hid hN
  clear hq
  obtain ⟨line, j, c, m, a, p, found, tail, cyc⟩ := x
  unfold nearL at hL
  simp only at hL
  replace hL := hid hL
  unfold ColV.val
  go_enter Try.func79, Try.ntmps79
  go_wp2_with fail
  have hY := Blk.new (w.alloc (.cells #[.int .i64 line, .int .i64 j, .int .i64 c, .int .i64 m, .int .u64 a, .int .u64 p, .bool found, .int .i64 tail, .int .i64 cyc] 67)) [.int .i64 j, .int .i64 c, .int .i64 m, .int .i64 tail, .int .i64 cyc] 3
  have hFF := ((Fr.refl [] w).alloc (.cells #[.int .i64 line, .int .i64 j, .int .i64 c, .int .i64 m, .int .u64 a, .int .u64 p, .bool found, .int .i64 tail, .int .i64 cyc] 67)).alloc (.cells #[.int .i64 j, .int .i64 c, .int .i64 m, .int .i64 tail, .int .i64 cyc] 3)
  rw [World.size_alloc] at hY
  have hYL : [Value.int .i64 j, .int .i64 c, .int .i64 m, .int .i64 tail, .int .i64 cyc] = L.map (Value.int .i64) := by rw [hL.out]; rfl
  have hl5 : L.length = 5 := by rw [hL.out]; rfl
  have hY2 := hY.congr hYL
  have HL5 := hid hl5
  clear hYL hl5 hL
  go_loopw [4] (fun i wr => ∃ k : Nat, k ≤ 5 ∧ i = .int .i64 k ∧ (L.take k).all nearN = true ∧ Blk wr (w.heap.size + 1) 3 (L.map (Value.int .i64)) ∧ Fr [] w wr) (fun i _ => 5 - (intOf i).toNat)
  case atStart => exact ⟨0, by omega, rfl, by simp, hY2, hFF⟩
  case round =>
    obtain ⟨k, hk, rfl, hall, hY, hFF⟩ := hrel
    by_cases hlt : k < 5
    · have hkl : k < L.length := by rw [HL5.out]; exact hlt
      obtain ⟨t, ht⟩ : ∃ t, t = L[k] := ⟨_, rfl⟩
      have kY : wr.cell? ⟨w.heap.size + 1, k, none⟩ = some (.int .i64 t) := by
        rw [hY.cell, List.getElem?_map, List.getElem?_eq_getElem hkl, ht]; rfl
      have hmem : t ∈ L := by rw [ht]; exact List.getElem_mem hkl
      have hq : nearN t = false → q = false := fun h => by
        rw [hN.out, ← Bool.not_eq_true, List.all_eq_true]
        intro hh
        have := hh t hmem
        rw [h] at this
        cases this
      replace hq := hid hq
      have hnext : nearN t = true → (L.take (k + 1)).all nearN = true := fun h => by
        rw [List.take_succ_eq_append_getElem hkl, List.all_append, hall, ← ht]; simp [h]
      replace hnext := hid hnext
      clear ht hmem hkl hall
      by_cases c1 : 1000000 < t
      · have e : q = false := hq.out (by rw [← Bool.not_eq_true, nearN_iff]; omega)
        subst e
        clear hq hnext
        go_wp2_with fail
        go_ret
        exact ⟨rfl, hFF⟩
      by_cases c2 : t < -1000000
      · have e : q = false := hq.out (by rw [← Bool.not_eq_true, nearN_iff]; omega)
        subst e
        clear hq hnext
        go_wp2_with fail
        go_ret
        exact ⟨rfl, hFF⟩
      have hn := hid (hnext.out ((nearN_iff t).2 (by omega)))
      clear hq hnext
      go_wp2_with fail
      go_roundw
      case rel => exact ⟨k + 1, by omega, by simp, hn.out, hY, hFF⟩
      case measure => first | exact (by omega : 5 - (k + 1) < 5 - k) | (simp [intOf]; omega)
    · have hk5 : k = 5 := by omega
      have e : q = true := by rw [hN.out]; rw [hk5, List.take_of_length_le (by rw [HL5.out]; omega)] at hall; exact hall
      subst e
      clear hall
      go_wp2
      go_ret
      exact ⟨rfl, hFF⟩

theorem far_no (x : ColV) (h : x.Near) (w : World) : Calls Try.prog 79 #[x.val] w fun e w' => e = .returned (.bool false) ∧ Fr [] w w' := by
  have := far_any x w
  rw [x.near_iff.2 h] at this
  exact this
theorem far_yes (x : ColV) (h : ¬ x.Near) (w : World) : Calls Try.prog 79 #[x.val] w fun e w' => e = .returned (.bool true) ∧ Fr [] w w' := by
  have := far_any x w
  have e : x.near = false := by rw [← Bool.not_eq_true, x.near_iff]; exact h
  rw [e] at this
  exact this

end Go.Proofs.Ytnhnbgkhbhgifaa
