/- What a mutator has that is not in a register yet: lisp.Temp, Fresh, Late; the document's Temp and Fresh. -/
import Derived.Test.YtolkgdchinaonaaMutV
namespace Go.Proofs.Ytolkgdchinaonaa
open Go.RowKit
set_option linter.unusedVariables false
set_option linter.unusedSimpArgs false

def freL (line back : Int) : Bool := if line = 80 ∨ line = 81 then decide (37 ≤ back ∧ back ≤ 40) else decide (37 ≤ line ∧ line ≤ 40)
/-- A temporary, a fresh cell; the register that is still to come. -/
def tempV (x : MutV) : Value := .tuple #[.int .u64 (if x.line = 15 then x.b else 0), .bool (decide (x.line = 15))]
def freshV (x : MutV) : Value := .tuple #[.int .u64 (if freL x.line x.back = true then x.c else 0), .bool (freL x.line x.back)]
def lateV (x : MutV) : Value := .tuple #[.int .i64 (if (decide (x.line = 15) || freL x.line x.back) = true then x.oa else 0), .bool (decide (x.line = 15) || freL x.line x.back)]

set_option maxHeartbeats 1000000 in
theorem ltemp_any (x : MutV) (w : World) : Calls Try.prog 68 #[x.val] w fun e w' => e = .returned (tempV x) ∧ Fr [] w w' := by
  obtain ⟨line, ok, oa, ob, oc, a, b, c, n, t, p, back, ret⟩ := x
  by_cases h : line = 15
  · subst h
    rw [show tempV ⟨15, ok, oa, ob, oc, a, b, c, n, t, p, back, ret⟩ = .tuple #[.int .u64 b, .bool true] from rfl]
    simp only [MutV.val]
    go_enter Try.func68, Try.ntmps68
    go_wp2
    go_ret2
    exact ⟨rfl, (Fr.refl _ _).alloc _⟩
  · have b1 : (line == 15) = false := beq_eq_false_iff_ne.2 h
    have b2 : (line != 15) = true := by simpa using h
    rw [show tempV ⟨line, ok, oa, ob, oc, a, b, c, n, t, p, back, ret⟩ = .tuple #[.int .u64 0, .bool false] by simp [tempV, h]]
    simp only [MutV.val]
    clear h
    go_enter Try.func68, Try.ntmps68
    go_wp2
    go_ret2
    exact ⟨rfl, (Fr.refl _ _).alloc _⟩

set_option maxHeartbeats 1000000 in
theorem rtemp_any (x : MutV) (w : World) : Calls Try.prog 66 #[x.val] w fun e w' => e = .returned (tempV x) ∧ Fr [] w w' := by
  obtain ⟨line, ok, oa, ob, oc, a, b, c, n, t, p, back, ret⟩ := x
  by_cases h : line = 15
  · subst h
    rw [show tempV ⟨15, ok, oa, ob, oc, a, b, c, n, t, p, back, ret⟩ = .tuple #[.int .u64 b, .bool true] from rfl]
    simp only [MutV.val]
    go_enter Try.func66, Try.ntmps66
    go_wp2
    go_ret2
    exact ⟨rfl, (Fr.refl _ _).alloc _⟩
  · have b1 : (line == 15) = false := beq_eq_false_iff_ne.2 h
    have b2 : (line != 15) = true := by simpa using h
    rw [show tempV ⟨line, ok, oa, ob, oc, a, b, c, n, t, p, back, ret⟩ = .tuple #[.int .u64 0, .bool false] by simp [tempV, h]]
    simp only [MutV.val]
    clear h
    go_enter Try.func66, Try.ntmps66
    go_wp2
    go_ret2
    exact ⟨rfl, (Fr.refl _ _).alloc _⟩

set_option maxHeartbeats 2000000 in
theorem lfresh_any (x : MutV) (w : World) : Calls Try.prog 69 #[x.val] w fun e w' => e = .returned (freshV x) ∧ Fr [] w w' := by
  obtain ⟨line, ok, oa, ob, oc, a, b, c, n, t, p, back, ret⟩ := x
  by_cases h : line = 80 ∨ line = 81
  · have hh : ∀ f : Bool, (decide (37 ≤ back ∧ back ≤ 40)) = f → Calls Try.prog 69 #[(⟨line, ok, oa, ob, oc, a, b, c, n, t, p, back, ret⟩ : MutV).val] w fun e w' => e = .returned (.tuple #[.int .u64 (if f = true then c else 0), .bool f]) ∧ Fr [] w w' := by
      intro f hf
      rcases h with rfl | rfl
      · by_cases g1 : 37 ≤ back
        · have a1 : decide (37 ≤ back) = true := by simpa using g1
          by_cases g2 : back ≤ 40
          · have a2 : decide (back ≤ 40) = true := by simpa using g2
            obtain rfl : f = true := by rw [← hf]; simp; omega
            simp only [MutV.val]
            clear hf
            (try clear g2)
            clear g1
            (try clear h)
            go_enter Try.func69, Try.ntmps69
            go_wp2
            go_ret2
            exact ⟨rfl, by repeat (first | exact Fr.refl _ _ | refine Fr.alloc ?_ _ | refine Fr.setNew ?_ (Nat.le_refl _) _)⟩
          · have a2 : decide (back ≤ 40) = false := by simpa using g2
            obtain rfl : f = false := by rw [← hf]; simp; omega
            simp only [MutV.val]
            clear hf
            (try clear g2)
            clear g1
            (try clear h)
            go_enter Try.func69, Try.ntmps69
            go_wp2
            go_ret2
            exact ⟨rfl, by repeat (first | exact Fr.refl _ _ | refine Fr.alloc ?_ _ | refine Fr.setNew ?_ (Nat.le_refl _) _)⟩
        · have a1 : decide (37 ≤ back) = false := by simpa using g1
          obtain rfl : f = false := by rw [← hf]; simp; omega
          simp only [MutV.val]
          clear hf
          (try clear g2)
          clear g1
          (try clear h)
          go_enter Try.func69, Try.ntmps69
          go_wp2
          go_ret2
          exact ⟨rfl, by repeat (first | exact Fr.refl _ _ | refine Fr.alloc ?_ _ | refine Fr.setNew ?_ (Nat.le_refl _) _)⟩
      · by_cases g1 : 37 ≤ back
        · have a1 : decide (37 ≤ back) = true := by simpa using g1
          by_cases g2 : back ≤ 40
          · have a2 : decide (back ≤ 40) = true := by simpa using g2
            obtain rfl : f = true := by rw [← hf]; simp; omega
            simp only [MutV.val]
            clear hf
            (try clear g2)
            clear g1
            (try clear h)
            go_enter Try.func69, Try.ntmps69
            go_wp2
            go_ret2
            exact ⟨rfl, by repeat (first | exact Fr.refl _ _ | refine Fr.alloc ?_ _ | refine Fr.setNew ?_ (Nat.le_refl _) _)⟩
          · have a2 : decide (back ≤ 40) = false := by simpa using g2
            obtain rfl : f = false := by rw [← hf]; simp; omega
            simp only [MutV.val]
            clear hf
            (try clear g2)
            clear g1
            (try clear h)
            go_enter Try.func69, Try.ntmps69
            go_wp2
            go_ret2
            exact ⟨rfl, by repeat (first | exact Fr.refl _ _ | refine Fr.alloc ?_ _ | refine Fr.setNew ?_ (Nat.le_refl _) _)⟩
        · have a1 : decide (37 ≤ back) = false := by simpa using g1
          obtain rfl : f = false := by rw [← hf]; simp; omega
          simp only [MutV.val]
          clear hf
          (try clear g2)
          clear g1
          (try clear h)
          go_enter Try.func69, Try.ntmps69
          go_wp2
          go_ret2
          exact ⟨rfl, by repeat (first | exact Fr.refl _ _ | refine Fr.alloc ?_ _ | refine Fr.setNew ?_ (Nat.le_refl _) _)⟩
    have := hh _ rfl
    rw [show freshV ⟨line, ok, oa, ob, oc, a, b, c, n, t, p, back, ret⟩ = .tuple #[.int .u64 (if decide (37 ≤ back ∧ back ≤ 40) = true then c else 0), .bool (decide (37 ≤ back ∧ back ≤ 40))] by unfold freshV freL; simp only; rw [if_pos h]]
    exact this
  · have hh : ∀ f : Bool, (decide (37 ≤ line ∧ line ≤ 40)) = f → Calls Try.prog 69 #[(⟨line, ok, oa, ob, oc, a, b, c, n, t, p, back, ret⟩ : MutV).val] w fun e w' => e = .returned (.tuple #[.int .u64 (if f = true then c else 0), .bool f]) ∧ Fr [] w w' := by
      intro f hf
      have b1 : (line == 80) = false := beq_eq_false_iff_ne.2 (fun e => h (.inl e))
      have b2 : (line == 81) = false := beq_eq_false_iff_ne.2 (fun e => h (.inr e))
      by_cases g1 : 37 ≤ line
      · have a1 : decide (37 ≤ line) = true := by simpa using g1
        by_cases g2 : line ≤ 40
        · have a2 : decide (line ≤ 40) = true := by simpa using g2
          obtain rfl : f = true := by rw [← hf]; simp; omega
          simp only [MutV.val]
          clear hf
          (try clear g2)
          clear g1
          (try clear h)
          go_enter Try.func69, Try.ntmps69
          go_wp2
          go_ret2
          exact ⟨rfl, by repeat (first | exact Fr.refl _ _ | refine Fr.alloc ?_ _ | refine Fr.setNew ?_ (Nat.le_refl _) _)⟩
        · have a2 : decide (line ≤ 40) = false := by simpa using g2
          obtain rfl : f = false := by rw [← hf]; simp; omega
          simp only [MutV.val]
          clear hf
          (try clear g2)
          clear g1
          (try clear h)
          go_enter Try.func69, Try.ntmps69
          go_wp2
          go_ret2
          exact ⟨rfl, by repeat (first | exact Fr.refl _ _ | refine Fr.alloc ?_ _ | refine Fr.setNew ?_ (Nat.le_refl _) _)⟩
      · have a1 : decide (37 ≤ line) = false := by simpa using g1
        obtain rfl : f = false := by rw [← hf]; simp; omega
        simp only [MutV.val]
        clear hf
        (try clear g2)
        clear g1
        (try clear h)
        go_enter Try.func69, Try.ntmps69
        go_wp2
        go_ret2
        exact ⟨rfl, by repeat (first | exact Fr.refl _ _ | refine Fr.alloc ?_ _ | refine Fr.setNew ?_ (Nat.le_refl _) _)⟩
    have := hh _ rfl
    rw [show freshV ⟨line, ok, oa, ob, oc, a, b, c, n, t, p, back, ret⟩ = .tuple #[.int .u64 (if decide (37 ≤ line ∧ line ≤ 40) = true then c else 0), .bool (decide (37 ≤ line ∧ line ≤ 40))] by unfold freshV freL; simp only; rw [if_neg h]]
    exact this

set_option maxHeartbeats 2000000 in
theorem rfresh_any (x : MutV) (w : World) : Calls Try.prog 67 #[x.val] w fun e w' => e = .returned (freshV x) ∧ Fr [] w w' := by
  obtain ⟨line, ok, oa, ob, oc, a, b, c, n, t, p, back, ret⟩ := x
  by_cases h : line = 80 ∨ line = 81
  · have hh : ∀ f : Bool, (decide (37 ≤ back ∧ back ≤ 40)) = f → Calls Try.prog 67 #[(⟨line, ok, oa, ob, oc, a, b, c, n, t, p, back, ret⟩ : MutV).val] w fun e w' => e = .returned (.tuple #[.int .u64 (if f = true then c else 0), .bool f]) ∧ Fr [] w w' := by
      intro f hf
      rcases h with rfl | rfl
      · by_cases g1 : 37 ≤ back
        · have a1 : decide (37 ≤ back) = true := by simpa using g1
          by_cases g2 : back ≤ 40
          · have a2 : decide (back ≤ 40) = true := by simpa using g2
            obtain rfl : f = true := by rw [← hf]; simp; omega
            simp only [MutV.val]
            clear hf
            (try clear g2)
            clear g1
            (try clear h)
            go_enter Try.func67, Try.ntmps67
            go_wp2
            go_ret2
            exact ⟨rfl, by repeat (first | exact Fr.refl _ _ | refine Fr.alloc ?_ _ | refine Fr.setNew ?_ (Nat.le_refl _) _)⟩
          · have a2 : decide (back ≤ 40) = false := by simpa using g2
            obtain rfl : f = false := by rw [← hf]; simp; omega
            simp only [MutV.val]
            clear hf
            (try clear g2)
            clear g1
            (try clear h)
            go_enter Try.func67, Try.ntmps67
            go_wp2
            go_ret2
            exact ⟨rfl, by repeat (first | exact Fr.refl _ _ | refine Fr.alloc ?_ _ | refine Fr.setNew ?_ (Nat.le_refl _) _)⟩
        · have a1 : decide (37 ≤ back) = false := by simpa using g1
          obtain rfl : f = false := by rw [← hf]; simp; omega
          simp only [MutV.val]
          clear hf
          (try clear g2)
          clear g1
          (try clear h)
          go_enter Try.func67, Try.ntmps67
          go_wp2
          go_ret2
          exact ⟨rfl, by repeat (first | exact Fr.refl _ _ | refine Fr.alloc ?_ _ | refine Fr.setNew ?_ (Nat.le_refl _) _)⟩
      · by_cases g1 : 37 ≤ back
        · have a1 : decide (37 ≤ back) = true := by simpa using g1
          by_cases g2 : back ≤ 40
          · have a2 : decide (back ≤ 40) = true := by simpa using g2
            obtain rfl : f = true := by rw [← hf]; simp; omega
            simp only [MutV.val]
            clear hf
            (try clear g2)
            clear g1
            (try clear h)
            go_enter Try.func67, Try.ntmps67
            go_wp2
            go_ret2
            exact ⟨rfl, by repeat (first | exact Fr.refl _ _ | refine Fr.alloc ?_ _ | refine Fr.setNew ?_ (Nat.le_refl _) _)⟩
          · have a2 : decide (back ≤ 40) = false := by simpa using g2
            obtain rfl : f = false := by rw [← hf]; simp; omega
            simp only [MutV.val]
            clear hf
            (try clear g2)
            clear g1
            (try clear h)
            go_enter Try.func67, Try.ntmps67
            go_wp2
            go_ret2
            exact ⟨rfl, by repeat (first | exact Fr.refl _ _ | refine Fr.alloc ?_ _ | refine Fr.setNew ?_ (Nat.le_refl _) _)⟩
        · have a1 : decide (37 ≤ back) = false := by simpa using g1
          obtain rfl : f = false := by rw [← hf]; simp; omega
          simp only [MutV.val]
          clear hf
          (try clear g2)
          clear g1
          (try clear h)
          go_enter Try.func67, Try.ntmps67
          go_wp2
          go_ret2
          exact ⟨rfl, by repeat (first | exact Fr.refl _ _ | refine Fr.alloc ?_ _ | refine Fr.setNew ?_ (Nat.le_refl _) _)⟩
    have := hh _ rfl
    rw [show freshV ⟨line, ok, oa, ob, oc, a, b, c, n, t, p, back, ret⟩ = .tuple #[.int .u64 (if decide (37 ≤ back ∧ back ≤ 40) = true then c else 0), .bool (decide (37 ≤ back ∧ back ≤ 40))] by unfold freshV freL; simp only; rw [if_pos h]]
    exact this
  · have hh : ∀ f : Bool, (decide (37 ≤ line ∧ line ≤ 40)) = f → Calls Try.prog 67 #[(⟨line, ok, oa, ob, oc, a, b, c, n, t, p, back, ret⟩ : MutV).val] w fun e w' => e = .returned (.tuple #[.int .u64 (if f = true then c else 0), .bool f]) ∧ Fr [] w w' := by
      intro f hf
      have b1 : (line == 80) = false := beq_eq_false_iff_ne.2 (fun e => h (.inl e))
      have b2 : (line == 81) = false := beq_eq_false_iff_ne.2 (fun e => h (.inr e))
      by_cases g1 : 37 ≤ line
      · have a1 : decide (37 ≤ line) = true := by simpa using g1
        by_cases g2 : line ≤ 40
        · have a2 : decide (line ≤ 40) = true := by simpa using g2
          obtain rfl : f = true := by rw [← hf]; simp; omega
          simp only [MutV.val]
          clear hf
          (try clear g2)
          clear g1
          (try clear h)
          go_enter Try.func67, Try.ntmps67
          go_wp2
          go_ret2
          exact ⟨rfl, by repeat (first | exact Fr.refl _ _ | refine Fr.alloc ?_ _ | refine Fr.setNew ?_ (Nat.le_refl _) _)⟩
        · have a2 : decide (line ≤ 40) = false := by simpa using g2
          obtain rfl : f = false := by rw [← hf]; simp; omega
          simp only [MutV.val]
          clear hf
          (try clear g2)
          clear g1
          (try clear h)
          go_enter Try.func67, Try.ntmps67
          go_wp2
          go_ret2
          exact ⟨rfl, by repeat (first | exact Fr.refl _ _ | refine Fr.alloc ?_ _ | refine Fr.setNew ?_ (Nat.le_refl _) _)⟩
      · have a1 : decide (37 ≤ line) = false := by simpa using g1
        obtain rfl : f = false := by rw [← hf]; simp; omega
        simp only [MutV.val]
        clear hf
        (try clear g2)
        clear g1
        (try clear h)
        go_enter Try.func67, Try.ntmps67
        go_wp2
        go_ret2
        exact ⟨rfl, by repeat (first | exact Fr.refl _ _ | refine Fr.alloc ?_ _ | refine Fr.setNew ?_ (Nat.le_refl _) _)⟩
    have := hh _ rfl
    rw [show freshV ⟨line, ok, oa, ob, oc, a, b, c, n, t, p, back, ret⟩ = .tuple #[.int .u64 (if decide (37 ≤ line ∧ line ≤ 40) = true then c else 0), .bool (decide (37 ≤ line ∧ line ≤ 40))] by unfold freshV freL; simp only; rw [if_neg h]]
    exact this
set_option maxRecDepth 100000 in
set_option maxHeartbeats 2000000 in
theorem llate_any (x : MutV) (w : World) : Calls Try.prog 70 #[x.val] w fun e w' => e = .returned (lateV x) ∧ Fr [] w w' := by
  have HT := fun W => ltemp_any x W
  have HF := fun W => lfresh_any x W
  unfold tempV at HT
  unfold freshV at HF
  unfold lateV
  obtain ⟨u, hu⟩ : ∃ z, z = (if x.line = 15 then x.b else 0) := ⟨_, rfl⟩
  obtain ⟨v, hv⟩ : ∃ z, z = (if freL x.line x.back = true then x.c else 0) := ⟨_, rfl⟩
  rw [← hu] at HT
  rw [← hv] at HF
  clear hu hv
  obtain ⟨tb, ht⟩ : ∃ z, z = decide (x.line = 15) := ⟨_, rfl⟩
  obtain ⟨fb, hf⟩ : ∃ z, z = freL x.line x.back := ⟨_, rfl⟩
  rw [← ht] at HT ⊢
  rw [← hf] at HF ⊢
  clear ht hf
  obtain ⟨line, ok, oa, ob, oc, a, b, c, n, t, p, back, ret⟩ := x
  simp only [MutV.val] at HT HF ⊢
  replace HT := hid HT
  replace HF := hid HF
  have hX := Blk.new w [.int .i64 line, .int .i64 ok, .int .i64 oa, .int .i64 ob, .int .i64 oc, .int .u64 a, .int .u64 b, .int .u64 c, .int .u64 n, .int .u64 t, .int .u64 p, .int .i64 back, .int .i64 ret] 54
  have kX := hX.cell
  have hFF := (Fr.refl [] w).alloc (.cells #[.int .i64 line, .int .i64 ok, .int .i64 oa, .int .i64 ob, .int .i64 oc, .int .u64 a, .int .u64 b, .int .u64 c, .int .u64 n, .int .u64 t, .int .u64 p, .int .i64 back, .int .i64 ret] 54)
  cases tb <;> cases fb <;> simp only [Bool.or_self, Bool.or_false, Bool.or_true, Bool.true_or, Bool.false_or, if_true, Bool.false_eq_true, if_false]
  all_goals (go_enter Try.func70, Try.ntmps70; go_wp2_with (first | (go_at_call 68; refine (HT.out _).mono ?_; rintro e w2 ⟨rfl, hF2⟩; (replace hX := hX.kept hF2 List.not_mem_nil); (replace kX := hX.cell); (replace hFF := hFF.trans hF2)) | (go_at_call 69; refine (HF.out _).mono ?_; rintro e w2 ⟨rfl, hF2⟩; (replace hX := hX.kept hF2 List.not_mem_nil); (replace kX := hX.cell); (replace hFF := hFF.trans hF2))); go_ret2; exact ⟨rfl, hFF⟩)

end Go.Proofs.Ytolkgdchinaonaa
