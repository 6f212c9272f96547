/- mudlarkref01, 03, 04: the document's answers on words, configurations, places. -/
import Derived.Test.YtnhnbgkhbhgifaaHandNew
namespace Go.Proofs.Ytnhnbgkhbhgifaa
open Go.RowKit
set_option linter.unusedVariables false
set_option linter.unusedSimpArgs false

theorem rIsCell_any (x : Int) (h0 : 0 ≤ x) (h1 : x < 18446744073709551616) (w : World) :
    Calls Try.prog 59 #[.int .u64 x] w fun e w' => e = .returned (.int .i64 (cellN x)) ∧ w = w' := by
  unfold cellN
  by_cases hc : x % 2 = 1
  · by_cases hl : x < 8192
    · rw [if_pos ⟨hc, hl⟩]
      go_enter Try.func59, Try.ntmps59
      go_wp2
      go_ret
      exact ⟨rfl, rfl⟩
    · rw [if_neg (by omega)]
      go_enter Try.func59, Try.ntmps59
      go_wp2
      go_ret
      exact ⟨rfl, rfl⟩
  · rw [if_neg (by omega)]
    go_enter Try.func59, Try.ntmps59
    go_wp2
    go_ret
    exact ⟨rfl, rfl⟩

theorem rRight_any (c : Cfg) (w : World) (r : Bool) (hr : c.right = r) :
    Calls Try.prog 46 #[c.val] w fun e w' => e = .returned (.bool r) ∧ Fr [] w w' := by
  have H := hr
  obtain ⟨cc, cm, cr, cg⟩ := c
  simp only [Cfg.right] at H
  by_cases h1 : 1 < cc
  · by_cases h2 : cc < 4097
    · by_cases h3 : 0 < cm
      · by_cases h4 : cm < 64
        · by_cases h5 : 0 < cr
          · by_cases h6 : cr < 65
            · by_cases h7 : -1 < cg
              · by_cases h8 : cg < 65
                · have e : r = true := by
                    rw [← H]; simp only [Bool.and_eq_true, decide_eq_true_eq]; omega
                  subst e
                  clear H hr
                  go_enter Try.func46, Try.ntmps46
                  go_wp2
                  go_ret
                  exact ⟨rfl, (Fr.refl _ _).alloc _⟩
                · have e : r = false := by
                    rw [← H, Bool.eq_false_iff]; simp only [ne_eq, Bool.and_eq_true, decide_eq_true_eq]; omega
                  subst e
                  clear H hr
                  go_enter Try.func46, Try.ntmps46
                  go_wp2
                  go_ret
                  exact ⟨rfl, (Fr.refl _ _).alloc _⟩
              · have e : r = false := by
                  rw [← H, Bool.eq_false_iff]; simp only [ne_eq, Bool.and_eq_true, decide_eq_true_eq]; omega
                subst e
                clear H hr
                go_enter Try.func46, Try.ntmps46
                go_wp2
                go_ret
                exact ⟨rfl, (Fr.refl _ _).alloc _⟩
            · have e : r = false := by
                rw [← H, Bool.eq_false_iff]; simp only [ne_eq, Bool.and_eq_true, decide_eq_true_eq]; omega
              subst e
              clear H hr
              go_enter Try.func46, Try.ntmps46
              go_wp2
              go_ret
              exact ⟨rfl, (Fr.refl _ _).alloc _⟩
          · have e : r = false := by
              rw [← H, Bool.eq_false_iff]; simp only [ne_eq, Bool.and_eq_true, decide_eq_true_eq]; omega
            subst e
            clear H hr
            go_enter Try.func46, Try.ntmps46
            go_wp2
            go_ret
            exact ⟨rfl, (Fr.refl _ _).alloc _⟩
        · have e : r = false := by
            rw [← H, Bool.eq_false_iff]; simp only [ne_eq, Bool.and_eq_true, decide_eq_true_eq]; omega
          subst e
          clear H hr
          go_enter Try.func46, Try.ntmps46
          go_wp2
          go_ret
          exact ⟨rfl, (Fr.refl _ _).alloc _⟩
      · have e : r = false := by
          rw [← H, Bool.eq_false_iff]; simp only [ne_eq, Bool.and_eq_true, decide_eq_true_eq]; omega
        subst e
        clear H hr
        go_enter Try.func46, Try.ntmps46
        go_wp2
        go_ret
        exact ⟨rfl, (Fr.refl _ _).alloc _⟩
    · have e : r = false := by
        rw [← H, Bool.eq_false_iff]; simp only [ne_eq, Bool.and_eq_true, decide_eq_true_eq]; omega
      subst e
      clear H hr
      go_enter Try.func46, Try.ntmps46
      go_wp2
      go_ret
      exact ⟨rfl, (Fr.refl _ _).alloc _⟩
  · have e : r = false := by
      rw [← H, Bool.eq_false_iff]; simp only [ne_eq, Bool.and_eq_true, decide_eq_true_eq]; omega
    subst e
    clear H hr
    go_enter Try.func46, Try.ntmps46
    go_wp2
    go_ret
    exact ⟨rfl, (Fr.refl _ _).alloc _⟩

theorem rRoots_any {c : Cfg} (hR : c.Right) (w : World) :
    Calls Try.prog 41 #[c.val] w fun e w' => e = .returned (.int .i64 c.roots) ∧ Fr [] w w' := by
  have HC := hid (fun W => rRight_any c W true hR.right)
  obtain ⟨R1, R2, R3, R4, R5, R6, R7, R8⟩ := hR
  obtain ⟨m, hm⟩ : ∃ m : Nat, (m : Int) = c.muts := ⟨c.muts.toNat, by omega⟩
  have HZ : Hid (c.roots = 1 + c.globs + m * c.regs) := by rw [hm]; rfl
  rw [← hm] at R3 R4
  have HM := hid hm
  obtain ⟨cc, cm, cr, cg⟩ := c
  simp only at R1 R2 R3 R4 R5 R6 R7 R8 hm
  subst hm
  go_enter Try.func41, Try.ntmps41
  go_wp2_with fail
  refine (HC.out _).mono ?_
  rintro e w' ⟨rfl, hF⟩
  have hB := (Blk.new _ _ _).kept hF (by simp)
  have kB := hB.cell
  go_wp2
  go_loop [3, 4] (fun t i => ∃ k : Nat, k ≤ m ∧ i = .int .i64 k ∧ t = .int .i64 (1 + cg + k * cr)) (fun _ i => m - (intOf i).toNat)
  case atStart => exact ⟨0, by omega, rfl, by simp⟩
  case round =>
    obtain ⟨k, hk, rfl, rfl⟩ := hrel
    have b1 : 0 ≤ (k : Int) * cr ∧ (k : Int) * cr ≤ 4096 := by
      have a1 : 0 ≤ (k : Int) * cr := Int.mul_nonneg (by omega) (by omega)
      have a2 : (k : Int) * cr ≤ 63 * 64 := Int.mul_le_mul (by omega) R6 (by omega) (by omega)
      omega
    by_cases hlt : k < m
    · have HS : Hid ((1 + cg + (k : Int) * cr + cr : Int) = 1 + cg + ((k + 1 : Nat) : Int) * cr) := by
        show (1 + cg + (k : Int) * cr + cr : Int) = 1 + cg + ((k + 1 : Nat) : Int) * cr
        rw [Int.natCast_add, Int.add_mul]; omega
      go_wp2
      go_round
      case rel => exact ⟨k + 1, by omega, by go_num, by rw [← HS.out]⟩
      case measure => simp [intOf]; omega
    · obtain rfl : k = m := by omega
      go_wp2
      go_ret
      exact ⟨by rw [HZ.out]; rfl, ((Fr.refl _ _).alloc _).trans hF⟩

theorem rWords_any {c : Cfg} (hR : c.Right) (w : World) :
    Calls Try.prog 47 #[c.val] w fun e w' => e = .returned (.int .i64 c.words) ∧ Fr [] w w' := by
  have HC := hid (fun W => rRight_any c W true hR.right)
  have HR := hid (fun W => rRoots_any hR W)
  have m1 := hR.mr
  obtain ⟨R1, R2, R3, R4, R5, R6, R7, R8⟩ := hR
  obtain ⟨z, hz⟩ : ∃ z, z = c.roots := ⟨_, rfl⟩
  have hz1 : 2 ≤ z := by rw [hz]; simp only [Cfg.roots]; omega
  have hz2 : z ≤ 4097 := by rw [hz]; simp only [Cfg.roots]; omega
  have HW : Hid (c.words = 4 + c.muts + z + c.cells + c.cells + c.cells) := by show c.words = _; rw [hz]; simp only [Cfg.words]; omega
  rw [← hz] at HR
  clear hz
  obtain ⟨cc, cm, cr, cg⟩ := c
  simp only at R1 R2 R3 R4 R5 R6 R7 R8 m1
  go_enter Try.func47, Try.ntmps47
  go_wp2_with fail
  refine (HC.out _).mono ?_
  rintro e w' ⟨rfl, hF⟩
  have hB := (Blk.new _ _ _).kept hF (by simp)
  have kB := hB.cell
  go_wp2_with fail
  go_region_held3 (fun w' => w'.cell? ⟨w.heap.size, 0, none⟩ = some (.int .i64 cc) ∧ w'.cell? ⟨w.heap.size, 1, none⟩ = some (.int .i64 cm) ∧ w'.cell? ⟨w.heap.size, 2, none⟩ = some (.int .i64 cr) ∧ w'.cell? ⟨w.heap.size, 3, none⟩ = some (.int .i64 cg)) (go_keep)
    (first | (go_at_call 41; refine (HR.out _).mono ?_; rintro e w2 ⟨rfl, hF2⟩; (have hB2 := hB.drew.kept hF2 (by simp)); (have k := hB2.cell)))
  go_wp2
  go_ret
  refine ⟨?_, ((((Fr.refl _ _).alloc _).trans hF).drew).trans ‹_›⟩
  rw [HW.out]
  show Ending.returned (.int .i64 (IntKind.i64.wrap _)) = Ending.returned (.int .i64 _)
  rw [w64 (4 + cm) (by omega), w64 (4 + cm + z) (by omega), w64 (4 + cm + z + cc) (by omega), w64 (4 + cm + z + cc + cc) (by omega), w64 _ (by omega)]

/-- Two slices of words held against each other. -/
theorem rSame_any {w : World} {u v : Value} {a b : List Int} (hu : RdS w u a.length (u64s a)) (hv : RdS w v b.length (u64s b)) (ha : a.length ≤ 35184372088832) (hb : b.length ≤ 35184372088832) :
    Calls Try.prog 20 #[u, v] w fun e w' => e = .returned (.bool (decide (a = b))) ∧ Fr [] w w' := by
  obtain ⟨ua, uc, rfl, hu'⟩ := hu.elim
  obtain ⟨va, vc, rfl, hv'⟩ := hv.elim
  clear hu hv
  by_cases hl : a.length = b.length
  · obtain ⟨n, hn⟩ : ∃ n, n = b.length := ⟨_, rfl⟩
    rw [← hn] at hl hv' hb ⊢
    rw [hl] at hu' ha ⊢
    have HU := hid hu'
    have HV := hid hv'
    have HLA := hid hl
    have HLB := hid hn
    clear hl hn hu' hv'
    go_enter Try.func20, Try.ntmps20
    go_wp2
    go_loopw [5] (fun i wr => ∃ k : Nat, k ≤ n ∧ i = .int .i64 k ∧ (∀ j, j < k → a.getD j 0 = b.getD j 0) ∧ Fr [] w wr) (fun i _ => n - (intOf i).toNat)
    case atStart => exact ⟨0, by omega, rfl, fun j hj => by omega, Fr.refl _ _⟩
    case round =>
      obtain ⟨k, hk, rfl, hj, hF⟩ := hrel
      have HJ := hid hj
      clear hj
      by_cases hlt : k < n
      · obtain ⟨b1, o1, rfl, l1, c1⟩ := HU.out (by omega)
        obtain ⟨b2, o2, rfl, l2, c2⟩ := HV.out (by omega)
        have d1 : wr.cell? ⟨b1, o1 + k, none⟩ = some (.int .u64 (a.getD k 0)) := ((hF.cell l1 (by simp)).trans (c1 k (by simp; rw [HLA.out]; exact hlt))).trans (u64s_get _ _ (by rw [HLA.out]; exact hlt))
        have d2 : wr.cell? ⟨b2, o2 + k, none⟩ = some (.int .u64 (b.getD k 0)) := ((hF.cell l2 (by simp)).trans (c2 k (by simp; rw [← HLB.out]; exact hlt))).trans (u64s_get _ _ (by rw [← HLB.out]; exact hlt))
        clear c1 c2
        obtain ⟨x, hx⟩ : ∃ x, x = a.getD k 0 := ⟨_, rfl⟩
        obtain ⟨y, hy⟩ : ∃ y, y = b.getD k 0 := ⟨_, rfl⟩
        rw [← hx] at d1
        rw [← hy] at d2
        have HX := hid hx
        have HY := hid hy
        clear hx hy
        by_cases he : x = y
        · subst he
          have hne : (x != x) = false := by simp
          go_wp2
          go_quiet (fail)
          go_wp2
          go_roundw
          case rel =>
            refine ⟨k + 1, by omega, by go_num, fun j hj => ?_, hF.drewN _⟩
            rcases Nat.lt_or_ge j k with h | h
            · exact HJ.out j h
            · obtain rfl : j = k := by omega
              exact HX.out.symm.trans HY.out
          case measure => simp [intOf]; omega
        · have hne : (x != y) = true := bne_iff_ne.2 he
          go_wp2
          go_quiet (fail)
          go_wp2
          go_ret
          refine ⟨?_, hF.drewN _⟩
          have : ¬ a = b := fun e => he (by rw [HX.out, HY.out, e])
          simp [this]
      · obtain rfl : k = n := by omega
        go_wp2
        go_ret
        refine ⟨?_, hF⟩
        have : a = b := by
          apply List.ext_getElem?
          intro j
          by_cases hj : j < k
          · have := HJ.out j hj
            rw [List.getD_eq_getElem?_getD, List.getD_eq_getElem?_getD, List.getElem?_eq_getElem (by rw [HLA.out]; exact hj), List.getElem?_eq_getElem (by rw [← HLB.out]; exact hj)] at this
            rw [List.getElem?_eq_getElem (by rw [HLA.out]; exact hj), List.getElem?_eq_getElem (by rw [← HLB.out]; exact hj)]
            exact congrArg some this
          · rw [List.getElem?_eq_none (by rw [HLA.out]; omega), List.getElem?_eq_none (by rw [← HLB.out]; omega)]
        simp [this]
  · have hne : ((a.length : Int) != (b.length : Int)) = true := bne_iff_ne.2 (by omega)
    have h0 : ¬ a = b := fun e => hl (by rw [e])
    have hd : decide (a = b) = false := by simpa using h0
    rw [hd]
    clear hu' hv' h0 hd
    go_enter Try.func20, Try.ntmps20
    go_wp2
    go_ret
    exact ⟨rfl, Fr.refl _ _⟩

/-- A copy of words. -/
theorem rCopy_any {w : World} {v : Value} {a : List Int} (hv : RdS w v a.length (u64s a)) (ha : a.length ≤ 1000000) :
    Calls Try.prog 15 #[v] w fun e w' => SomeOwn w 36 a.length (u64s a) e w' ∧ Fr [] w w' := by
  obtain ⟨i0, hi, hz0, hz1, hz2⟩ := info_parts infoW
  have hown : (w.alloc (.cells #[] 36)).ownsRow w.heap.size 36 1 (.slice (some ⟨w.heap.size, 0, none⟩) 0 0) 0 [] := World.ownsRow_made w #[] 0 (Nat.le_refl _) (by simp [maxLen]) rfl
  rcases hv with ⟨h0, hl, ad, cap, rfl⟩ | ⟨b, o, cap, rfl, hlt, hc⟩
  · have : a = [] := List.eq_nil_of_length_eq_zero h0
    subst this
    cases ad with
    | none =>
      clear hl h0 ha
      go_enter Try.func15, Try.ntmps15
      go_wp2
      go_ret
      exact ⟨⟨_, rfl, hown⟩, (Fr.refl _ _).alloc _⟩
    | some ad =>
      clear hl h0 ha
      go_enter Try.func15, Try.ntmps15
      go_wp2
      go_ret
      exact ⟨⟨_, rfl, hown⟩, (Fr.refl _ _).alloc _⟩
  · have hc2 : ∀ j u, (u64s a)[j]? = some u → (w.alloc (.cells #[] 36)).cell? ((⟨b, o, none⟩ : Addr).add j) = some u := by
      intro j u hu
      have hj : j < (u64s a).length := by
        rcases Nat.lt_or_ge j (u64s a).length with h | h
        · exact h
        · rw [List.getElem?_eq_none h] at hu; cases hu
      have h1 := (hc j hj).trans hu
      have h2 : ((⟨b, o, none⟩ : Addr).add j) = ⟨b, o + j, none⟩ := by unfold Addr.add; split <;> simp_all
      rw [h2, World.cell?_alloc_past _ _ _ hlt]
      exact h1
    have h3 : ∀ u ∈ u64s a, u.oneCell' = true := by intro u hu; simp only [u64s, List.mem_map] at hu; obtain ⟨x, _, rfl⟩ := hu; rfl
    have HC := hid hc2
    have H3 := hid h3
    have hl3 : (u64s a).length = a.length * 1 := by simp
    clear hc hc2 h3
    go_enter Try.func15, Try.ntmps15
    go_wp2_with (first | (at_builtin; refine wpList_append_own _ rfl _ _ 22 rfl w.heap.size 36 i0 (.int .u64 0) 1 8 Try.underlying22 hi hz0 hz1 hz2 rfl (by decide) _ _ _ rfl hown ⟨b, o, none⟩ a.length cap (u64s a) rfl hl3 HC.out H3.out ?c3 ?c4 ?c5 ?_))
    case c3 => simp only [maxLen]; omega
    case c4 => omega
    case c5 => simp
    intro v' w1 hown1 hg1 _
    try rw [Nat.zero_add] at hown1
    try rw [List.nil_append] at hown1
    have HO := hid hown1
    have HF : Hid (Fr [] w w1) := hid (((Fr.refl [] w).alloc _).grown hg1 (fun j hj hj2 => by simp [Value.ownBlock] at hj; omega))
    clear hown1 hg1
    go_wp2
    go_ret
    exact ⟨⟨_, rfl, HO.out⟩, HF.out⟩

end Go.Proofs.Ytnhnbgkhbhgifaa
