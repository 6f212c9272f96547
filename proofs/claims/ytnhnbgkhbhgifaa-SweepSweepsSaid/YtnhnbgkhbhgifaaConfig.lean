/- Package config: what each call answers. -/
import Derived.Test.YtnhnbgkhbhgifaaPlain
import Derived.Test.YtnhnbgkhbhgifaaProg
import Derived.Test.YtnhnbgkhbhgifaaBase
import Derived.WalkLawsBesides
import Derived.Deep.RegionHeld3
import Derived.BigQuiet
import Derived.Deep.QuietTactic
namespace Go.Proofs.Ytnhnbgkhbhgifaa
open Go.RowKit
set_option linter.unusedVariables false
set_option linter.unusedSimpArgs false

/-- config.within of twelve numbers. -/
theorem within_any {w : World} {b : Nat} {g : Nat → Int} (hc : ∀ j, j < 12 → w.cell? ⟨b, j, none⟩ = some (.int .i64 (g j))) :
    Calls Try.prog 170 #[.slice (some ⟨b, 0, none⟩) 12 12] w fun e w' => (∃ r : Bool, e = .returned (.bool r) ∧ (r = true ↔ ∀ j, j < 4 → g (3 * j + 1) ≤ g (3 * j) ∧ g (3 * j) ≤ g (3 * j + 2))) ∧ Fr [] w w' := by
  go_enter Try.func170, Try.ntmps170
  go_wp2
  go_loopw [3] (fun i wr => ∃ k : Nat, k ≤ 4 ∧ i = .int .i64 (3 * k : Nat) ∧ (∀ j, j < k → g (3 * j + 1) ≤ g (3 * j) ∧ g (3 * j) ≤ g (3 * j + 2)) ∧ Fr [] w wr) (fun i _ => 12 - (intOf i).toNat)
  case atStart => exact ⟨0, by omega, rfl, by intro j hj; omega, Fr.refl _ _⟩
  case round =>
    obtain ⟨k, hk, rfl, hgood, hF⟩ := hrel
    have H := hid hgood
    clear hgood
    by_cases h4 : k < 4
    · have c0 : wr.cell? ⟨b, 3 * k, none⟩ = some (.int .i64 (g (3 * k))) := by rw [hF.cell (cell_lt (hc 0 (by omega))) (by simp)]; exact hc _ (by omega)
      have c1 : wr.cell? ⟨b, 3 * k + 1, none⟩ = some (.int .i64 (g (3 * k + 1))) := by rw [hF.cell (cell_lt (hc 0 (by omega))) (by simp)]; exact hc _ (by omega)
      have c2 : wr.cell? ⟨b, 3 * k + 2, none⟩ = some (.int .i64 (g (3 * k + 2))) := by rw [hF.cell (cell_lt (hc 0 (by omega))) (by simp)]; exact hc _ (by omega)
      clear hc
      by_cases lo : g (3 * k) < g (3 * k + 1)
      · go_wp2
        go_quiet (fail)
        go_wp2
        go_ret
        exact ⟨⟨false, rfl, by simp; exact ⟨k, h4, fun h => by omega⟩⟩, hF.drewN _⟩
      · have d1 : decide (g (3 * k) < g (3 * k + 1)) = false := by simpa using lo
        by_cases hi : g (3 * k + 2) < g (3 * k)
        · go_wp2
          go_quiet (fail)
          go_wp2
          go_ret
          exact ⟨⟨false, rfl, by simp; exact ⟨k, h4, fun h => by omega⟩⟩, hF.drewN _⟩
        · go_wp2
          go_quiet (fail)
          go_wp2
          go_roundw
          case rel =>
            refine ⟨k + 1, by omega, by go_num, ?_, hF.drewN _⟩
            intro j hj
            rcases Nat.lt_or_ge j k with h | h
            · exact H.out j h
            · obtain rfl : j = k := by omega
              exact ⟨by omega, by omega⟩
          case measure => simp [intOf]; omega
    · obtain rfl : k = 4 := by omega
      go_wp2
      go_ret
      exact ⟨⟨true, rfl, by simpa using H.out⟩, hF⟩

theorem Cfg.right_iff (c : Cfg) : c.right = true ↔ c.Right := by
  simp only [Cfg.right, Bool.and_eq_true, decide_eq_true_eq]
  constructor
  · rintro ⟨⟨⟨⟨⟨⟨⟨h1, h2⟩, h3⟩, h4⟩, h5⟩, h6⟩, h7⟩, h8⟩; exact ⟨h1, h2, h3, h4, h5, h6, h7, h8⟩
  · rintro ⟨h1, h2, h3, h4, h5, h6, h7, h8⟩; exact ⟨⟨⟨⟨⟨⟨⟨h1, h2⟩, h3⟩, h4⟩, h5⟩, h6⟩, h7⟩, h8⟩
theorem Cfg.Right.mr {c : Cfg} (h : c.Right) : 1 ≤ c.muts * c.regs ∧ c.muts * c.regs ≤ 4032 := by
  have h1 := h.m0; have h2 := h.m1; have h3 := h.r0; have h4 := h.r1
  have a1 : 1 * 1 ≤ c.muts * c.regs := Int.mul_le_mul h1 h3 (by omega) (by omega)
  have a2 : c.muts * c.regs ≤ 63 * 64 := Int.mul_le_mul h2 h4 (by omega) (by omega)
  omega

def win (g : Nat → Int) : Bool := decide (∀ j : Nat, j < 4 → g (3 * j + 1) ≤ g (3 * j) ∧ g (3 * j) ≤ g (3 * j + 2))
def chk (cc cm cr cg : Int) : Nat → Int := fun j => [cc, 2, 4096, cm, 1, 63, cr, 1, 64, cg, 0, 64].getD j 0
theorem win_chk (c : Cfg) : win (chk c.cells c.muts c.regs c.globs) = c.right := by
  rw [Bool.eq_iff_iff, c.right_iff]
  unfold win
  rw [decide_eq_true_eq]
  constructor
  · intro h
    have h0 := h 0 (by omega); have h1 := h 1 (by omega); have h2 := h 2 (by omega); have h3 := h 3 (by omega)
    simp [chk] at h0 h1 h2 h3
    exact ⟨h0.1, h0.2, h1.1, h1.2, h2.1, h2.2, h3.1, h3.2⟩
  · intro h j hj
    have hh := h
    obtain ⟨h1, h2, h3, h4, h5, h6, h7, h8⟩ := h
    match j, hj with
    | 0, _ => simp [chk]; exact ⟨h1, h2⟩
    | 1, _ => simp [chk]; exact ⟨h3, h4⟩
    | 2, _ => simp [chk]; exact ⟨h5, h6⟩
    | 3, _ => simp [chk]; exact ⟨h7, h8⟩

theorem within_win {w : World} {b : Nat} {g : Nat → Int} (hc : ∀ j, j < 12 → w.cell? ⟨b, j, none⟩ = some (.int .i64 (g j))) (r : Bool) (hr : win g = r) :
    Calls Try.prog 170 #[.slice (some ⟨b, 0, none⟩) 12 12] w fun e w' => e = .returned (.bool r) ∧ Fr [] w w' := by
  refine (within_any hc).mono ?_
  rintro e w' ⟨⟨r', rfl, h⟩, hF⟩
  refine ⟨?_, hF⟩
  have : r' = r := by rw [← hr, Bool.eq_iff_iff, h, win, decide_eq_true_eq]
  rw [this]

theorem check_any (c : Cfg) (w : World) (r : Bool) (hr : c.right = r) :
    Calls Try.prog 145 #[c.val] w fun e w' => e = .returned (.int .i64 (if r then 0 else 2)) ∧ Fr [] w w' := by
  have H := hid ((win_chk c).trans hr)
  clear hr
  obtain ⟨cc, cm, cr, cg⟩ := c
  go_enter Try.func145, Try.ntmps145
  go_wp2_with fail
  refine (within_win (g := chk cc cm cr cg) ?_ r H.out).mono ?_
  · intro j hj
    rw [World.cell?_alloc_at _ _ _ _ (by simp)]
    match j, hj with
    | 0, _ => rfl
    | 1, _ => rfl
    | 2, _ => rfl
    | 3, _ => rfl
    | 4, _ => rfl
    | 5, _ => rfl
    | 6, _ => rfl
    | 7, _ => rfl
    | 8, _ => rfl
    | 9, _ => rfl
    | 10, _ => rfl
    | 11, _ => rfl
  rintro e w' ⟨rfl, hF⟩
  cases r
  · go_wp2
    go_ret
    exact ⟨rfl, (((Fr.refl _ _).alloc _).alloc _).trans hF⟩
  · go_wp2
    go_ret
    exact ⟨rfl, (((Fr.refl _ _).alloc _).alloc _).trans hF⟩

theorem roots_any (c : Cfg) (w : World) (r : Bool) (hr : c.right = r) :
    Calls Try.prog 171 #[c.val] w fun e w' => e = .returned (.int .i64 (if r then c.roots else 0)) ∧ Fr [] w w' := by
  have hck := fun W => check_any c W r hr
  have hmr : r = true → c.Right := fun h => (c.right_iff).1 (hr.trans h)
  have H := hid hr
  clear hr
  cases r
  · obtain ⟨cc, cm, cr, cg⟩ := c
    clear hmr
    have HC := hid hck
    clear hck
    go_enter Try.func171, Try.ntmps171
    go_wp2_with fail
    refine (HC.out _).mono ?_
    rintro e w' ⟨rfl, hF⟩
    go_wp2
    go_ret
    exact ⟨rfl, ((Fr.refl _ _).alloc _).trans hF⟩
  · have R := hmr rfl
    have m1 := R.mr
    obtain ⟨R1, R2, R3, R4, R5, R6, R7, R8⟩ := R
    obtain ⟨cc, cm, cr, cg⟩ := c
    simp only at R1 R2 R3 R4 R5 R6 R7 R8 m1
    clear hmr
    have HC := hid hck
    clear hck
    go_enter Try.func171, Try.ntmps171
    go_wp2_with fail
    refine (HC.out _).mono ?_
    rintro e w' ⟨rfl, hF⟩
    have hk := hF.cells0
    simp only [World.size_alloc] at hk
    have h1 := hk w.heap.size 1 (by omega)
    have h2 := hk w.heap.size 2 (by omega)
    have h3 := hk w.heap.size 3 (by omega)
    rw [World.cell?_alloc_at _ _ _ _ rfl] at h1 h2 h3
    simp at h1 h2 h3
    clear hk
    go_wp2
    go_ret
    exact ⟨rfl, ((Fr.refl _ _).alloc _).trans hF⟩

theorem words_any (c : Cfg) (w : World) (r : Bool) (hr : c.right = r) :
    Calls Try.prog 146 #[c.val] w fun e w' => e = .returned (.int .i64 (if r then c.words else 0)) ∧ Fr [] w w' := by
  have hck := fun W => check_any c W r hr
  have hrt := fun W => roots_any c W r hr
  have hmr : r = true → c.Right := fun h => (c.right_iff).1 (hr.trans h)
  have H := hid hr
  clear hr
  cases r
  · obtain ⟨cc, cm, cr, cg⟩ := c
    clear hmr
    have HC := hid hck
    clear hck
    go_enter Try.func146, Try.ntmps146
    go_wp2_with fail
    refine (HC.out _).mono ?_
    rintro e w' ⟨rfl, hF⟩
    go_wp2
    go_ret
    exact ⟨rfl, ((Fr.refl _ _).alloc _).trans hF⟩
  · have R := hmr rfl
    have m1 := R.mr
    obtain ⟨R1, R2, R3, R4, R5, R6, R7, R8⟩ := R
    obtain ⟨cc, cm, cr, cg⟩ := c
    simp only at R1 R2 R3 R4 R5 R6 R7 R8 m1
    obtain ⟨z, hz⟩ : ∃ z, z = Cfg.roots ⟨cc, cm, cr, cg⟩ := ⟨_, rfl⟩
    have hz1 : 2 ≤ z := by rw [hz]; simp only [Cfg.roots]; omega
    have hz2 : z ≤ 4097 := by rw [hz]; simp only [Cfg.roots]; omega
    have hw : Cfg.words ⟨cc, cm, cr, cg⟩ = 4 + cm + z + 3 * cc := by rw [hz]; rfl
    rw [← hz] at hrt
    have HZ := hid hz
    have HW := hid hw
    clear hz hw
    clear hmr
    have HC := hid hck
    have HR := hid hrt
    clear hck hrt
    go_enter Try.func146, Try.ntmps146
    go_wp2_with fail
    refine (HC.out _).mono ?_
    rintro e w' ⟨rfl, hF⟩
    have hk := hF.cells0
    simp only [World.size_alloc] at hk
    have h0 := hk w.heap.size 0 (by omega)
    have h1 := hk w.heap.size 1 (by omega)
    have h2 := hk w.heap.size 2 (by omega)
    have h3 := hk w.heap.size 3 (by omega)
    rw [World.cell?_alloc_at _ _ _ _ rfl] at h0 h1 h2 h3
    simp at h0 h1 h2 h3
    have hs := hF.size
    simp only [World.size_alloc] at hs
    clear hk
    go_wp2_with fail
    go_region_held3 (fun w' => w'.cell? ⟨w.heap.size, 0, none⟩ = some (.int .i64 cc) ∧ w'.cell? ⟨w.heap.size, 1, none⟩ = some (.int .i64 cm) ∧ w'.cell? ⟨w.heap.size, 2, none⟩ = some (.int .i64 cr) ∧ w'.cell? ⟨w.heap.size, 3, none⟩ = some (.int .i64 cg)) (go_keep)
      (first | (go_at_call 171; refine (HR.out _).mono ?_; rintro e w2 ⟨rfl, hF2⟩; have k0 := hF2.cells0 w.heap.size 0 (by simp; omega); have k1 := hF2.cells0 w.heap.size 1 (by simp; omega); have k2 := hF2.cells0 w.heap.size 2 (by simp; omega); have k3 := hF2.cells0 w.heap.size 3 (by simp; omega)))
    go_wp2
    go_ret
    refine ⟨?_, ((((Fr.refl _ _).alloc _).trans hF).drew).trans ‹_›⟩
    rw [HW.out]
    show Ending.returned (.int .i64 (IntKind.i64.wrap _)) = Ending.returned (.int .i64 _)
    rw [w64 (4 + cm) (by omega), w64 (4 + cm + z) (by omega), w64 (3 * cc) (by omega), w64 _ (by omega)]
end Go.Proofs.Ytnhnbgkhbhgifaa
