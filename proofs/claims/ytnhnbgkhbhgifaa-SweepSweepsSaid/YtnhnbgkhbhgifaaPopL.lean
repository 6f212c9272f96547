/- The free list of words, as a plain function. -/
import Derived.Test.YtnhnbgkhbhgifaaPlain
import Derived.Test.YtnhnbgkhbhgifaaHandNew
namespace Go.Proofs.Ytnhnbgkhbhgifaa
open Go.RowKit
set_option linter.unusedVariables false
set_option linter.unusedSimpArgs false


def i64s (l : List Int) : List Value := l.map (Value.int .i64)
theorem i64s_append (l : List Int) (x : Int) : i64s (l ++ [x]) = i64s l ++ [.int .i64 x] := by simp [i64s]
/-- Which cells were met. -/
def seenOf (n : Nat) (out : List Int) : List Value := (List.range n).map fun (i : Nat) => .bool (decide ((i : Int) ∈ out))
theorem seenOf_nil (n : Nat) : seenOf n [] = List.replicate n (.bool false) := by
  unfold seenOf
  apply List.ext_getElem <;> simp
theorem seenOf_get (n : Nat) (out : List Int) (i : Nat) (h : i < n) : (seenOf n out)[i]? = some (.bool (decide ((i : Int) ∈ out))) := by simp [seenOf, h]
theorem seenOf_set (n : Nat) (out : List Int) (i : Nat) (h : i < n) : (seenOf n out).set i (.bool true) = seenOf n (out ++ [(i : Int)]) := by
  unfold seenOf
  apply List.ext_getElem
  · simp
  · intro j h1 h2
    simp only [List.getElem_set, List.getElem_map, List.getElem_range, List.mem_append, List.mem_singleton]
    by_cases e : i = j
    · subst e; simp
    · have : ¬ (j : Int) = (i : Int) := by omega
      simp [e, this]

theorem nodup_bd {l : List Int} {n : Nat} (hl : l.Nodup) (hs : ∀ x, x ∈ l → 0 ≤ x ∧ x < n) : l.length ≤ n := by
  have key : ∀ (l : List Int) (r : List Int), l.Nodup → (∀ x, x ∈ l → x ∈ r) → l.length ≤ r.length := by
    intro l
    induction l with
    | nil => simp
    | cons a l ih =>
      intro r hl hs
      obtain ⟨h1, h2⟩ := List.nodup_cons.1 hl
      have ha := hs a List.mem_cons_self
      have := ih (r.erase a) h2 (fun x hx => by
        have hne : x ≠ a := fun e => h1 (e ▸ hx)
        exact (List.mem_erase_of_ne hne).2 (hs x (List.mem_cons_of_mem _ hx)))
      rw [List.length_erase_of_mem ha] at this
      have hp := List.length_pos_of_mem ha
      simp only [List.length_cons]
      omega
  have := key l ((List.range n).map fun (i : Nat) => (i : Int)) hl (fun x hx => by
    obtain ⟨a, b⟩ := hs x hx
    exact List.mem_map.2 ⟨x.toNat, List.mem_range.2 (by omega), by omega⟩)
  simpa using this

theorem wAt_bd {l : List Int} (h : ∀ x, x ∈ l → 0 ≤ x ∧ x < 18446744073709551616) (i : Int) : 0 ≤ wAt l i ∧ wAt l i < 18446744073709551616 := by
  unfold wAt
  split
  · have : i.toNat < l.length := by omega
    rw [List.getD_eq_getElem?_getD, List.getElem?_eq_getElem this]
    exact h _ (List.getElem_mem this)
  · omega
theorem popGo_nil {c : Cfg} {l : List Int} {f : Nat} {out : List Int} (h : ¬ out = []) : popGo c l (f + 1) 0 out = some out := by simp [popGo, h]
theorem popGo_none {c : Cfg} {l : List Int} {f : Nat} {u : Int} {out : List Int} (h1 : ¬ (u = 0 ∧ ¬ out = [])) (h2 : ¬ (isCell u = true ∧ u / 2 < c.cells ∧ ¬ u / 2 ∈ out)) : popGo c l (f + 1) u out = none := by
  unfold popGo
  rw [if_neg h1, if_neg h2]
theorem popGo_step {c : Cfg} {l : List Int} {f : Nat} {u : Int} {out : List Int} (h1 : ¬ u = 0) (h2 : isCell u = true ∧ u / 2 < c.cells ∧ ¬ u / 2 ∈ out) : popGo c l (f + 1) u out = popGo c l f (wAt l (c.cellP 1 (u / 2))) (out ++ [u / 2]) := by
  rw [popGo, if_neg (fun h => h1 h.1), if_pos h2]

theorem cellP_in {c : Cfg} (hR : c.Right) (p i : Int) (hp : 0 ≤ p ∧ p ≤ 2) (hi : 0 ≤ i ∧ i < c.cells) : 0 ≤ c.cellP p i ∧ c.cellP p i < c.words := by
  have hA := cA_bd hR
  unfold Cfg.cellP pAt
  rw [if_pos hi, words_cA]
  omega
theorem infoB1 : (Try.prog.info? 4).map (fun i => (i.zero, i.size, i.bytes)) = some (some (.bool false), 1, 1) := by kernel_rfl
theorem infoI1 : (Try.prog.info? 3).map (fun i => (i.zero, i.size, i.bytes)) = some (some (.int .i64 0), 1, 8) := by kernel_rfl
theorem mkB (w : World) (n : Nat) (hn : n ≤ 35184372088832) : (Instr.makeSlice 78 (.int .i64 (n : Int)) (.int .i64 (n : Int))).run Try.prog w = .ok (.slice (some ⟨w.heap.size, 0, none⟩) n n) (w.alloc (.cells (seenOf n []).toArray 4)) := by
  obtain ⟨i0, hi, hz0, hz1, hz2⟩ := info_parts infoB1
  have h := run_make (P := Try.prog) w 78 4 i0 (.bool false) Try.underlying78 hi hz0 .i64 .i64 n n (by omega) (by omega) (by rw [hz2]; omega) (by omega)
  rw [hz1, zeros_toArray _ (.bool false) _ rfl] at h
  rw [seenOf_nil]
  simpa using h

end Go.Proofs.Ytnhnbgkhbhgifaa
