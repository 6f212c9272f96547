/- mudlarkref01.Ints: two slices of numbers. -/
import Derived.Test.YtnhnbgkhbhgifaaPopL
namespace Go.Proofs.Ytnhnbgkhbhgifaa
open Go.RowKit
set_option linter.unusedVariables false
set_option linter.unusedSimpArgs false

@[simp] theorem i64s_length (l : List Int) : (i64s l).length = l.length := by simp [i64s]
theorem i64s_get (l : List Int) (i : Nat) (h : i < l.length) : (i64s l)[i]? = some (.int .i64 (l.getD i 0)) := by
  simp [i64s, List.getElem?_eq_getElem h]

/-- Two slices of numbers held against each other. -/
theorem rInts_any {w : World} {u v : Value} {a b : List Int} (hu : RdS w u a.length (i64s a)) (hv : RdS w v b.length (i64s b)) (ha : a.length ≤ 35184372088832) (hb : b.length ≤ 35184372088832) :
    Calls Try.prog 36 #[u, v] w fun e w' => e = .returned (.bool (decide (a = b))) ∧ Fr [] w w' := by
  obtain ⟨ua, uc, rfl, hu'⟩ := hu.elim
  obtain ⟨va, vc, rfl, hv'⟩ := hv.elim
  clear hu hv
  by_cases hl : a.length = b.length
  · obtain ⟨n, hn⟩ : ∃ n, n = b.length := ⟨_, rfl⟩
    rw [← hn] at hl hv' hb ⊢
    rw [hl] at hu' ha ⊢
    have HU := hid hu'
    have HV := hid hv'
    have HLA := hid hl
    have HLB := hid hn
    clear hl hn hu' hv'
    go_enter Try.func36, Try.ntmps36
    go_wp2
    go_loopw [5] (fun i wr => ∃ k : Nat, k ≤ n ∧ i = .int .i64 k ∧ (∀ j, j < k → a.getD j 0 = b.getD j 0) ∧ Fr [] w wr) (fun i _ => n - (intOf i).toNat)
    case atStart => exact ⟨0, by omega, rfl, fun j hj => by omega, Fr.refl _ _⟩
    case round =>
      obtain ⟨k, hk, rfl, hj, hF⟩ := hrel
      have HJ := hid hj
      clear hj
      by_cases hlt : k < n
      · obtain ⟨b1, o1, rfl, l1, c1⟩ := HU.out (by omega)
        obtain ⟨b2, o2, rfl, l2, c2⟩ := HV.out (by omega)
        have d1 : wr.cell? ⟨b1, o1 + k, none⟩ = some (.int .i64 (a.getD k 0)) := ((hF.cell l1 (by simp)).trans (c1 k (by simp; rw [HLA.out]; exact hlt))).trans (i64s_get _ _ (by rw [HLA.out]; exact hlt))
        have d2 : wr.cell? ⟨b2, o2 + k, none⟩ = some (.int .i64 (b.getD k 0)) := ((hF.cell l2 (by simp)).trans (c2 k (by simp; rw [← HLB.out]; exact hlt))).trans (i64s_get _ _ (by rw [← HLB.out]; exact hlt))
        clear c1 c2
        obtain ⟨x, hx⟩ : ∃ x, x = a.getD k 0 := ⟨_, rfl⟩
        obtain ⟨y, hy⟩ : ∃ y, y = b.getD k 0 := ⟨_, rfl⟩
        rw [← hx] at d1
        rw [← hy] at d2
        have HX := hid hx
        have HY := hid hy
        clear hx hy
        by_cases he : x = y
        · subst he
          have hne : (x != x) = false := by simp
          go_wp2
          go_quiet (fail)
          go_wp2
          go_roundw
          case rel =>
            refine ⟨k + 1, by omega, by go_num, fun j hj => ?_, hF.drewN _⟩
            rcases Nat.lt_or_ge j k with h | h
            · exact HJ.out j h
            · obtain rfl : j = k := by omega
              exact HX.out.symm.trans HY.out
          case measure => simp [intOf]; omega
        · have hne : (x != y) = true := bne_iff_ne.2 he
          go_wp2
          go_quiet (fail)
          go_wp2
          go_ret
          refine ⟨?_, hF.drewN _⟩
          have : ¬ a = b := fun e => he (by rw [HX.out, HY.out, e])
          simp [this]
      · obtain rfl : k = n := by omega
        go_wp2
        go_ret
        refine ⟨?_, hF⟩
        have : a = b := by
          apply List.ext_getElem?
          intro j
          by_cases hj : j < k
          · have := HJ.out j hj
            rw [List.getD_eq_getElem?_getD, List.getD_eq_getElem?_getD, List.getElem?_eq_getElem (by rw [HLA.out]; exact hj), List.getElem?_eq_getElem (by rw [← HLB.out]; exact hj)] at this
            rw [List.getElem?_eq_getElem (by rw [HLA.out]; exact hj), List.getElem?_eq_getElem (by rw [← HLB.out]; exact hj)]
            exact congrArg some this
          · rw [List.getElem?_eq_none (by rw [HLA.out]; omega), List.getElem?_eq_none (by rw [← HLB.out]; omega)]
        simp [this]
  · have hne : ((a.length : Int) != (b.length : Int)) = true := bne_iff_ne.2 (by omega)
    have h0 : ¬ a = b := fun e => hl (by rw [e])
    have hd : decide (a = b) = false := by simpa using h0
    rw [hd]
    clear hu' hv' h0 hd
    go_enter Try.func36, Try.ntmps36
    go_wp2
    go_ret
    exact ⟨rfl, Fr.refl _ _⟩

theorem ints_true {w : World} {u v : Value} {a : List Int} (ha : a.length ≤ 35184372088832) (hu : RdS w u a.length (i64s a)) (hv : RdS w v a.length (i64s a)) :
    Calls Try.prog 36 #[u, v] w fun e w' => e = .returned (.bool true) ∧ Fr [] w w' := by
  have := rInts_any hu hv ha ha
  rw [decide_eq_true (rfl : a = a)] at this
  exact this

end Go.Proofs.Ytnhnbgkhbhgifaa
