/- The document's free list, as a plain function; it is pop's. -/
import Derived.Test.YtnhnbgkhbhgifaaPopL
namespace Go.Proofs.Ytnhnbgkhbhgifaa
open Go.RowKit
set_option linter.unusedVariables false
set_option linter.unusedSimpArgs false

def refGo (c : Cfg) (l : List Int) : Nat → Int → List Int → Option (List Int)
  | 0, _, _ => none
  | f + 1, u, out => if u = 0 ∧ ¬ out = [] then some out else if isCell u = true ∧ u / 2 < c.cells then refGo c l f (wAt l (c.cellP 1 (u / 2))) (out ++ [u / 2]) else none

theorem isCell_ne {u : Int} (h : isCell u = true) : ¬ u = 0 := by
  intro e
  subst e
  exact absurd h (by decide)

/-- Round in a closed set of cells there is no end. -/
theorem refGo_round {c : Cfg} {l : List Int} {C : List Int} (hC : ∀ x, x ∈ C → x < c.cells ∧ isCell (wAt l (c.cellP 1 x)) = true ∧ wAt l (c.cellP 1 x) / 2 ∈ C) : ∀ (f : Nat) (u : Int) (out : List Int), isCell u = true → u / 2 ∈ C → refGo c l f u out = none := by
  intro f
  induction f with
  | zero => intro u out _ _; rfl
  | succ f ih =>
    intro u out hu hm
    obtain ⟨h1, h2, h3⟩ := hC _ hm
    unfold refGo
    rw [if_neg (fun h => isCell_ne hu h.1), if_pos ⟨hu, h1⟩]
    exact ih _ _ h2 h3

theorem popGo_ref {c : Cfg} {l : List Int} : ∀ (f : Nat) (u : Int) (out : List Int), (∀ x, x ∈ out → x < c.cells ∧ ((isCell (wAt l (c.cellP 1 x)) = true ∧ wAt l (c.cellP 1 x) / 2 ∈ out) ∨ wAt l (c.cellP 1 x) = u)) → popGo c l f u out = refGo c l f u out := by
  intro f
  induction f with
  | zero => intro u out _; rfl
  | succ f ih =>
    intro u out h
    unfold popGo refGo
    by_cases h0 : u = 0 ∧ ¬ out = []
    · rw [if_pos h0, if_pos h0]
    · rw [if_neg h0, if_neg h0]
      by_cases h1 : isCell u = true ∧ u / 2 < c.cells
      · rw [if_pos h1]
        by_cases h2 : u / 2 ∈ out
        · rw [if_neg (fun h => h.2.2 h2)]
          symm
          apply refGo_round (C := out)
          · intro x hx
            obtain ⟨a, b⟩ := h x hx
            rcases b with b | b
            · exact ⟨a, b⟩
            · rw [b]; exact ⟨a, h1.1, h2⟩
          · obtain ⟨a, b⟩ := h _ h2
            rcases b with b | b
            · exact b.1
            · rw [b]; exact h1.1
          · obtain ⟨a, b⟩ := h _ h2
            rcases b with b | b
            · exact b.2
            · rw [b]; exact h2
        · rw [if_pos ⟨h1.1, h1.2, h2⟩]
          apply ih
          intro x hx
          rcases List.mem_append.1 hx with hx | hx
          · obtain ⟨a, b⟩ := h x hx
            refine ⟨a, .inl ?_⟩
            rcases b with b | b
            · exact ⟨b.1, List.mem_append_left _ b.2⟩
            · rw [b]; exact ⟨h1.1, by simp⟩
          · simp at hx
            subst hx
            exact ⟨h1.2, .inr rfl⟩
      · rw [if_neg h1, if_neg (fun h => h1 ⟨h.1, h.2.1⟩)]

def refList (c : Cfg) (l : List Int) : Option (List Int) := refGo c l (c.cells.toNat + 1) (wAt l 0) []
theorem refList_eq (c : Cfg) (l : List Int) : popList c l = refList c l := popGo_ref _ _ _ (by simp)
theorem refGo_nil {c : Cfg} {l : List Int} {f : Nat} {out : List Int} (h : ¬ out = []) : refGo c l (f + 1) 0 out = some out := by simp [refGo, h]
theorem refGo_none {c : Cfg} {l : List Int} {f : Nat} {u : Int} {out : List Int} (h1 : ¬ (u = 0 ∧ ¬ out = [])) (h2 : ¬ (isCell u = true ∧ u / 2 < c.cells)) : refGo c l (f + 1) u out = none := by
  unfold refGo
  rw [if_neg h1, if_neg h2]
theorem refGo_step {c : Cfg} {l : List Int} {f : Nat} {u : Int} {out : List Int} (h1 : ¬ u = 0) (h2 : isCell u = true ∧ u / 2 < c.cells) : refGo c l (f + 1) u out = refGo c l f (wAt l (c.cellP 1 (u / 2))) (out ++ [u / 2]) := by
  rw [refGo, if_neg (fun h => h1 h.1), if_pos h2]

end Go.Proofs.Ytnhnbgkhbhgifaa
