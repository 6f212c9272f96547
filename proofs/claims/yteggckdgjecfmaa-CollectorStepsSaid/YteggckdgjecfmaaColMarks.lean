/- collector.Marks, mudlarkref19.Marks, collector.Swept. -/
import Derived.Test.YteggckdgjecfmaaCol
namespace Go.Proofs.Yteggckdgjecfmaa
open Go.RowKit
set_option linter.unusedVariables false
set_option linter.unusedSimpArgs false

theorem aLoad_ws (i : Int) (ws : List Int) : (aLoad i).ws ws = ws := by
  unfold Acc.ws
  split
  · rename_i h
    have h2 : 0 ≤ i ∧ i < (ws.length : Int) := by simp only [aLoad, Acc.ok, Bool.and_eq_true, decide_eq_true_eq] at h; exact ⟨of_decide_eq_true h.1.2, of_decide_eq_true h.2⟩
    clear h
    obtain ⟨h3, h4⟩ := h2
    have hi : i.toNat < ws.length := by omega
    apply List.ext_getElem (by simp)
    intro k g1 g2
    simp only [aLoad, List.getElem_set]
    split
    · rename_i e
      subst e
      have hw : wAt ws i = ws[i.toNat] := by unfold wAt; rw [if_pos ⟨h3, h4⟩]; simp [hi]
      simp [Acc.new, hw]
    · rfl
  · rfl
theorem colM_load (s : HS) (i : Int) (x : ColV) : colM (s.doIt (aLoad i)) x = colM s x := by
  have e : (s.doIt (aLoad i)).clear = s.clear := by simp [HS.doIt, HS.clear, aLoad_ws]
  unfold colM
  rw [e]

theorem col_load {w : World} {h ab db : Nat} {s : HS} {i : Int} (H : HAt w h ab db (s.doIt (aLoad i))) (x : ColV) (hx : x.Wf) (hn : x.Near) :
    Calls Try.prog 86 #[.pointer (some ⟨h, 0, none⟩), x.val] w fun e w' => e = .returned (.tuple #[(colM s x).x.val, .int .i64 (colM s x).what]) ∧ HAt w' h ab db (colM s x).s ∧ Fr [h, db] w w' := by
  have := col_any H x hx hn
  rw [colM_load] at this
  exact this


def cMarks (line : Int) : Bool := decide (1 ≤ line) && decide (line ≤ 16) && !decide (line = 14)
def cSwept (line c : Int) : Int := if 20 ≤ line ∧ line ≤ 24 then c else if line = 14 then 0 else -1

set_option maxRecDepth 100000 in
set_option maxHeartbeats 4000000 in
theorem cmarks_any (line j c m a p tail cyc : Int) (found : Bool) (w : World) : Calls Try.prog 83 #[.agg #[.int .i64 line, .int .i64 j, .int .i64 c, .int .i64 m, .int .u64 a, .int .u64 p, .bool found, .int .i64 tail, .int .i64 cyc]] w fun e w' => e = .returned (.bool (cMarks line)) ∧ Fr [] w w' := by
  obtain ⟨r, hr⟩ : ∃ z, z = cMarks line := ⟨_, rfl⟩
  rw [← hr]
  unfold cMarks at hr
  replace hr := hid hr
  by_cases e1 : (1 : Int) ≤ line
  · have g1 : decide (1 ≤ line) = true := by simpa using e1
    by_cases e2 : line ≤ 16
    · have g2 : decide (line ≤ 16) = true := by simpa using e2
      by_cases e3 : line = 14
      · subst e3
        go_enter Try.func83, Try.ntmps83
        go_wp2
        go_ret
        exact ⟨by rw [hr.out]; rfl, (Fr.refl _ _).alloc _⟩
      · have g3 : (line != 14) = true := by simpa using e3
        have g4 : decide (line = 14) = false := by simpa using e3
        clear e1 e2 e3
        replace g4 := hid g4
        go_enter Try.func83, Try.ntmps83
        go_wp2
        go_ret
        exact ⟨by rw [hr.out, g1, g2, g4.out]; simp only [g3]; rfl, (Fr.refl _ _).alloc _⟩
    · have g2 : decide (line ≤ 16) = false := by simpa using e2
      clear e1 e2
      go_enter Try.func83, Try.ntmps83
      go_wp2
      go_ret
      exact ⟨by rw [hr.out, g1, g2]; rfl, (Fr.refl _ _).alloc _⟩
  · have g1 : decide (1 ≤ line) = false := by simpa using e1
    clear e1
    go_enter Try.func83, Try.ntmps83
    go_wp2
    go_ret
    exact ⟨by rw [hr.out, g1]; rfl, (Fr.refl _ _).alloc _⟩

set_option maxRecDepth 100000 in
set_option maxHeartbeats 4000000 in
theorem rcmarks_any (line j c m a p tail cyc : Int) (found : Bool) (w : World) : Calls Try.prog 84 #[.agg #[.int .i64 line, .int .i64 j, .int .i64 c, .int .i64 m, .int .u64 a, .int .u64 p, .bool found, .int .i64 tail, .int .i64 cyc]] w fun e w' => e = .returned (.bool (cMarks line)) ∧ Fr [] w w' := by
  obtain ⟨r, hr⟩ : ∃ z, z = cMarks line := ⟨_, rfl⟩
  rw [← hr]
  unfold cMarks at hr
  replace hr := hid hr
  by_cases q1 : line ≤ 0
  · have hr2 := hid (show r = false by rw [hr.out]; simp; omega)
    clear hr
    have g1 : decide (0 < line) = false := by simp; omega
    have g2 : (line == 15) = false := by simp; omega
    have g3 : (line == 16) = false := by simp; omega
    clear q1
    go_enter Try.func84, Try.ntmps84
    go_wp2
    go_ret
    exact ⟨by rw [hr2.out]; rfl, (Fr.refl _ _).alloc _⟩
  by_cases q2 : line < 14
  · have hr2 := hid (show r = true by rw [hr.out]; simp; omega)
    clear hr
    have g1 : decide (0 < line) = true := by simp; omega
    have g2 : decide (line < 14) = true := by simp; omega
    clear q1 q2
    go_enter Try.func84, Try.ntmps84
    go_wp2
    go_ret
    exact ⟨by rw [hr2.out]; rfl, (Fr.refl _ _).alloc _⟩
  by_cases q14 : line = 14
  · subst q14
    have hr2 := hid (show r = false by rw [hr.out]; rfl)
    clear hr q1 q2
    go_enter Try.func84, Try.ntmps84
    go_wp2
    go_ret
    exact ⟨by rw [hr2.out]; rfl, (Fr.refl _ _).alloc _⟩
  by_cases q15 : line = 15
  · subst q15
    have hr2 := hid (show r = true by rw [hr.out]; rfl)
    clear hr q1 q2
    go_enter Try.func84, Try.ntmps84
    go_wp2
    go_ret
    exact ⟨by rw [hr2.out]; rfl, (Fr.refl _ _).alloc _⟩
  by_cases q16 : line = 16
  · subst q16
    have hr2 := hid (show r = true by rw [hr.out]; rfl)
    clear hr q1 q2
    go_enter Try.func84, Try.ntmps84
    go_wp2
    go_ret
    exact ⟨by rw [hr2.out]; rfl, (Fr.refl _ _).alloc _⟩
  have hr2 := hid (show r = false by rw [hr.out]; simp; omega)
  clear hr
  have g1 : decide (0 < line) = true := by simp; omega
  have g2 : decide (line < 14) = false := by simp; omega
  have g3 : (line == 15) = false := by simp; omega
  have g4 : (line == 16) = false := by simp; omega
  clear q1 q2 q14 q15 q16
  go_enter Try.func84, Try.ntmps84
  go_wp2
  go_ret
  exact ⟨by rw [hr2.out]; rfl, (Fr.refl _ _).alloc _⟩

set_option maxRecDepth 100000 in
set_option maxHeartbeats 4000000 in
theorem cswept_any (line j c m a p tail cyc : Int) (found : Bool) (w : World) : Calls Try.prog 85 #[.agg #[.int .i64 line, .int .i64 j, .int .i64 c, .int .i64 m, .int .u64 a, .int .u64 p, .bool found, .int .i64 tail, .int .i64 cyc]] w fun e w' => e = .returned (.int .i64 (cSwept line c)) ∧ Fr [] w w' := by
  obtain ⟨r, hr⟩ : ∃ z, z = cSwept line c := ⟨_, rfl⟩
  rw [← hr]
  unfold cSwept at hr
  replace hr := hid hr
  by_cases q1 : 20 ≤ line
  · have g1 : decide (20 ≤ line) = true := by simpa using q1
    by_cases q2 : line ≤ 24
    · have hr2 := hid (show r = c by rw [hr.out, if_pos ⟨q1, q2⟩])
      have g2 : decide (line ≤ 24) = true := by simpa using q2
      clear hr q1 q2
      go_enter Try.func85, Try.ntmps85
      go_wp2
      go_ret
      exact ⟨by rw [hr2.out]; rfl, (Fr.refl _ _).alloc _⟩
    · have hr2 := hid (show r = -1 by rw [hr.out, if_neg (by omega), if_neg (by omega)])
      have g2 : decide (line ≤ 24) = false := by simpa using q2
      have g3 : (line == 14) = false := by simp; omega
      clear hr q1 q2
      go_enter Try.func85, Try.ntmps85
      go_wp2
      go_ret
      exact ⟨by rw [hr2.out]; rfl, (Fr.refl _ _).alloc _⟩
  · by_cases q2 : line = 14
    · subst q2
      have hr2 := hid (show r = 0 by rw [hr.out, if_neg (by omega), if_pos rfl])
      clear hr q1
      go_enter Try.func85, Try.ntmps85
      go_wp2
      go_ret
      exact ⟨by rw [hr2.out]; rfl, (Fr.refl _ _).alloc _⟩
    · have hr2 := hid (show r = -1 by rw [hr.out, if_neg (by omega), if_neg q2])
      have g1 : decide (20 ≤ line) = false := by simpa using q1
      have g3 : (line == 14) = false := by simpa using q2
      clear hr q1 q2
      go_enter Try.func85, Try.ntmps85
      go_wp2
      go_ret
      exact ⟨by rw [hr2.out]; rfl, (Fr.refl _ _).alloc _⟩

end Go.Proofs.Yteggckdgjecfmaa
