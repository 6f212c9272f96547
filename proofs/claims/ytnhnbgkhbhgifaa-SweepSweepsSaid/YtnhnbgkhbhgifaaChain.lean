/- The free list as a chain of cells; taking its first cell. No program is named here. -/
import Derived.Test.YtnhnbgkhbhgifaaRootsP
namespace Go.Proofs.Ytnhnbgkhbhgifaa
open Go.RowKit
set_option linter.unusedVariables false
set_option linter.unusedSimpArgs false

/-- The cells that a word begins, one behind the other, down to nil. -/
def Chain (c : Cfg) (l : List Int) : Int → List Int → Prop
  | u, [] => u = 0
  | u, i :: r => isCell u = true ∧ u / 2 = i ∧ i < c.cells ∧ Chain c l (wAt l (c.cellP 1 i)) r
theorem isCell_nz {u : Int} (h : isCell u = true) : u ≠ 0 := by rintro rfl; simp [isCell] at h
theorem isCell_two {u : Int} (h : isCell u = true) : u % 2 = 1 ∧ u < 8192 := by simpa [isCell] using h
theorem popGo_some {c : Cfg} {l : List Int} : ∀ (f : Nat) (u : Int) (out res : List Int), popGo c l f u out = some res → ∃ r, res = out ++ r ∧ Chain c l u r ∧ r.Nodup ∧ (∀ i, i ∈ r → i ∉ out) ∧ res ≠ [] := by
  intro f
  induction f with
  | zero => intro u out res h; simp [popGo] at h
  | succ f ih =>
    intro u out res h
    unfold popGo at h
    split at h
    · rename_i h1
      obtain rfl := Option.some.inj h
      exact ⟨[], by simp, h1.1, List.nodup_nil, by simp, h1.2⟩
    · split at h
      · rename_i h1 h2
        obtain ⟨r, e, hc, hn, ho, hz⟩ := ih _ _ _ h
        refine ⟨u / 2 :: r, by rw [e]; simp, ⟨h2.1, rfl, h2.2.1, hc⟩, ?_, ?_, hz⟩
        · rw [List.nodup_cons]
          exact ⟨fun hm => ho _ hm (by simp), hn⟩
        · intro i hi
          rcases List.mem_cons.1 hi with e2 | hi
          · rw [e2]; exact h2.2.2
          · exact fun hm => ho i hi (by simp [hm])
      · cases h
theorem popGo_of {c : Cfg} {l : List Int} : ∀ (r : List Int) (f : Nat) (u : Int) (out : List Int), Chain c l u r → r.Nodup → (∀ i, i ∈ r → i ∉ out) → out ++ r ≠ [] → r.length < f → popGo c l f u out = some (out ++ r) := by
  intro r
  induction r with
  | nil =>
    intro f u out hc _ _ hz hf
    obtain ⟨f, rfl⟩ : ∃ k, f = k + 1 := ⟨f - 1, by simp at hf; omega⟩
    have hc : u = 0 := hc
    unfold popGo
    rw [if_pos ⟨hc, by simpa using hz⟩]; simp
  | cons i r ih =>
    intro f u out hc hn ho hz hf
    obtain ⟨f, rfl⟩ : ∃ k, f = k + 1 := ⟨f - 1, by simp at hf; omega⟩
    obtain ⟨h1, h2, h3, h4⟩ := hc
    obtain ⟨n1, n2⟩ := List.nodup_cons.1 hn
    have hi := ho i List.mem_cons_self
    unfold popGo
    rw [if_neg (fun h => isCell_nz h1 h.1), h2, if_pos ⟨h1, h3, hi⟩, ih f _ (out ++ [i]) h4 n2 ?_ (by simp) (by simp at hf; omega)]
    · simp
    · intro j hj hm
      rcases List.mem_append.1 hm with h | h
      · exact ho j (List.mem_cons_of_mem _ hj) h
      · simp at h; subst h; exact n1 hj
theorem nodup_le {l : List Int} {n : Nat} (hl : l.Nodup) (hs : ∀ x, x ∈ l → 0 ≤ x ∧ x < n) : l.length ≤ n := by
  have key : ∀ (l : List Int) (r : List Int), l.Nodup → (∀ x, x ∈ l → x ∈ r) → l.length ≤ r.length := by
    intro l
    induction l with
    | nil => simp
    | cons a l ih =>
      intro r hl hs
      obtain ⟨h1, h2⟩ := List.nodup_cons.1 hl
      have ha := hs a List.mem_cons_self
      have := ih (r.erase a) h2 (fun x hx => by
        have hne : x ≠ a := fun e => h1 (e ▸ hx)
        exact (List.mem_erase_of_ne hne).2 (hs x (List.mem_cons_of_mem _ hx)))
      rw [List.length_erase_of_mem ha] at this
      have hp := List.length_pos_of_mem ha
      simp only [List.length_cons]
      omega
  have := key l ((List.range n).map fun (i : Nat) => (i : Int)) hl (fun x hx => by
    obtain ⟨a, b⟩ := hs x hx
    exact List.mem_map.2 ⟨x.toNat, List.mem_range.2 (by omega), by omega⟩)
  simpa using this
theorem Chain.mem {c : Cfg} {l : List Int} (hl : ∀ k, 0 ≤ wAt l k) : ∀ (r : List Int) (u : Int), 0 ≤ u → Chain c l u r → ∀ i, i ∈ r → 0 ≤ i ∧ i < c.cells := by
  intro r
  induction r with
  | nil => intro u _ _ i hi; cases hi
  | cons a r ih =>
    intro u hu hc i hi
    obtain ⟨h1, h2, h3, h4⟩ := hc
    rcases List.mem_cons.1 hi with e | h
    · subst e; exact ⟨by omega, h3⟩
    · exact ih _ (hl _) h4 i h
theorem popList_iff {c : Cfg} {l : List Int} (hl : ∀ k, 0 ≤ wAt l k) (L : List Int) : popList c l = some L ↔ Chain c l (wAt l 0) L ∧ L.Nodup ∧ L ≠ [] := by
  constructor
  · intro h
    obtain ⟨r, e, hc, hn, _, hz⟩ := popGo_some _ _ _ _ h
    simp only [List.nil_append] at e
    subst e
    exact ⟨hc, hn, hz⟩
  · rintro ⟨hc, hn, hz⟩
    have hb := nodup_le (n := c.cells.toNat) hn (fun x hx => by have := Chain.mem hl L _ (hl 0) hc x hx; omega)
    have := popGo_of L (c.cells.toNat + 1) (wAt l 0) [] hc hn (by simp) (by simpa using hz) (by omega)
    simpa [popList] using this
theorem Chain.congr {c : Cfg} {l l' : List Int} : ∀ (r : List Int) (u : Int), (∀ i, i ∈ r → wAt l' (c.cellP 1 i) = wAt l (c.cellP 1 i)) → Chain c l u r → Chain c l' u r := by
  intro r
  induction r with
  | nil => intro u _ h; exact h
  | cons a r ih =>
    rintro u he ⟨h1, h2, h3, h4⟩
    refine ⟨h1, h2, h3, ?_⟩
    rw [he a List.mem_cons_self]
    exact ih _ (fun i hi => he i (List.mem_cons_of_mem _ hi)) h4
theorem cdr_ne0 {c : Cfg} (hR : c.Right) (i : Int) : c.cellP 1 i ≠ 0 := by
  have hA : 0 < c.cA := by
    obtain ⟨a1, a2, a3, a4, a5, a6, a7, a8⟩ := hR
    have hm : 0 ≤ c.muts * c.regs := Int.mul_nonneg (by omega) (by omega)
    unfold Cfg.cA; omega
  rcases cellP_ge c 1 i (by omega) with h | h <;> omega

/-- A mutator that takes a cell, behind k steps: u the first word of the list, n the word behind it. -/
inductive PtAt (c : Cfg) (l : List Int) (u n : Int) (k lins : Nat) (s : HS) (x : MutV) : Prop where
  | a (hk : k = 0) (hf : lins = 0) (hc : s.c = c) (hw : s.ws = l) (hx : x = ⟨34, 0, 0, 0, 0, 0, 0, 0, 0, 0, 0, 0, 0⟩)
  | b (hk : k = 1) (hf : lins = 0) (hc : s.c = c) (hw : s.ws = l) (hx : x = ⟨35, 0, 0, 0, 0, 0, 0, u, 0, 0, 0, 0, 0⟩)
  | full (hk : k = 2) (hf : lins = 1) (hn : isCell n = false) (hc : s.c = c) (hw : s.ws = l) (hx : x = ⟨41, 0, 0, 0, 0, 0, 0, u, n, 0, 0, 0, 5⟩)
  | c (hk : k = 2) (hf : lins = 0) (hn : isCell n = true) (hc : s.c = c) (hw : s.ws = l) (hx : x = ⟨36, 0, 0, 0, 0, 0, 0, u, n, 0, 0, 0, 0⟩)
  | d (hk : k = 3) (hf : lins = 1) (hn : isCell n = true) (hc : s.c = c) (hw : s.ws = l.set 0 n) (hx : x = ⟨80, 0, 0, 0, 0, 0, 0, u, n, 0, n, 37, 0⟩)
theorem PtAt.cfg {c : Cfg} {l : List Int} {u n : Int} {k f : Nat} {s : HS} {x : MutV} (h : PtAt c l u n k f s x) : s.c = c := by cases h <;> assumption
theorem PtAt.wf {c : Cfg} {l : List Int} {u n : Int} (hu : 0 ≤ u ∧ u < 18446744073709551616) (hn : 0 ≤ n ∧ n < 18446744073709551616) {k f : Nat} {s : HS} {x : MutV} (h : PtAt c l u n k f s x) : x.Wf := by
  cases h <;> (rename_i e; subst e; constructor <;> simp only <;> omega)
theorem PtAt.le {c : Cfg} {l : List Int} {u n : Int} {k f : Nat} {s : HS} {x : MutV} (h : PtAt c l u n k f s x) : k ≤ 3 ∧ f ≤ 1 := by cases h <;> omega
theorem aStore_ws0 (ws : List Int) (x : Int) (h : 0 < ws.length) : (aStore 0 x).ws ws = ws.set 0 x := by
  unfold Acc.ws
  rw [if_pos (by simp [Acc.ok, aStore]; omega)]
  rfl
theorem PtAt.step {c : Cfg} {l : List Int} (h0 : 0 < l.length) {u n : Int} (hu : wAt l 0 = u) (huc : isCell u = true) (hn : wAt l (c.cellP 1 (u / 2)) = n) {k f : Nat} {s : HS} {x : MutV} (h : PtAt c l u n k f s x) (hx : 34 ≤ x.line ∧ x.line ≤ 36) :
    (popM s x).is = true ∧ PtAt c l u n (k + 1) (if (popM s x).lin = true then f + 1 else f) (popM s x).s (popM s x).x := by
  have hfp : c.fieldP u 1 = c.cellP 1 (u / 2) := by unfold Cfg.fieldP; rw [if_pos ⟨huc, by omega, by omega⟩]
  cases h with
  | a hk hf hc hw e =>
    subst e; subst hk; subst hf
    obtain ⟨c', ws, acc⟩ := s
    simp only at hc hw
    subst hc; subst hw
    unfold popM
    simp only [if_true, hu]
    exact ⟨by first | rfl | trivial, .b rfl rfl rfl (aLoad_ws0 _ _) rfl⟩
  | b hk hf hc hw e =>
    subst e; subst hk; subst hf
    obtain ⟨c', ws, acc⟩ := s
    simp only at hc hw
    subst hc; subst hw
    unfold popM
    simp only [hfp, hn]
    rw [if_neg (by omega), if_pos trivial]
    by_cases hz : isCell n = true
    · rw [if_pos hz]
      exact ⟨by first | rfl | trivial, .c rfl rfl hz rfl (aLoad_ws0 _ _) rfl⟩
    · rw [if_neg hz]
      exact ⟨by first | rfl | trivial, .full rfl rfl (by simpa using hz) rfl (aLoad_ws0 _ _) rfl⟩
  | full hk hf hz hc hw e => subst e; simp at hx
  | c hk hf hz hc hw e =>
    subst e; subst hk; subst hf
    obtain ⟨c', ws, acc⟩ := s
    simp only at hc hw
    subst hc; subst hw
    unfold popM
    rw [if_neg (by simp only; omega), if_neg (by simp only; omega), if_pos rfl]
    refine ⟨rfl, .d rfl rfl hz rfl (aStore_ws0 _ _ h0) ?_⟩
    unfold brBegin
    simp only [hz, if_true]
  | d hk hf hz hc hw e => subst e; simp at hx
theorem PtAt.ends {c : Cfg} {l : List Int} {u n : Int} {k f : Nat} {s : HS} {x : MutV} (h : PtAt c l u n k f s x) (hx : ¬ (34 ≤ x.line ∧ x.line ≤ 36)) :
    f = 1 ∧ ((isCell n = false ∧ k = 2 ∧ s.ws = l ∧ x = ⟨41, 0, 0, 0, 0, 0, 0, u, n, 0, 0, 0, 5⟩) ∨ (isCell n = true ∧ k = 3 ∧ s.ws = l.set 0 n ∧ x = ⟨80, 0, 0, 0, 0, 0, 0, u, n, 0, n, 37, 0⟩)) := by
  cases h with
  | a hk hf hc hw e => subst e; simp at hx
  | b hk hf hc hw e => subst e; simp at hx
  | full hk hf hz hc hw e => exact ⟨hf, .inl ⟨hz, hk, hw, e⟩⟩
  | c hk hf hz hc hw e => subst e; simp at hx
  | d hk hf hz hc hw e => exact ⟨hf, .inr ⟨hz, hk, hw, e⟩⟩
theorem PtAt.line3 {c : Cfg} {l : List Int} {u n : Int} {k f : Nat} {s : HS} {x : MutV} (h : PtAt c l u n k f s x) (hx : 34 ≤ x.line ∧ x.line ≤ 36) : k < 3 := by
  cases h with
  | a hk => omega
  | b hk => omega
  | full hk hf hz hc hw e => subst e; simp at hx
  | c hk => omega
  | d hk hf hz hc hw e => subst e; simp at hx
/-- What a free list's first cell and the word behind it are. -/
theorem popList_head {c : Cfg} (hR : c.Right) {l : List Int} (hl : ∀ k, 0 ≤ wAt l k) (h0 : 0 < l.length) {i : Int} {r : List Int} (h : popList c l = some (i :: r)) :
    isCell (wAt l 0) = true ∧ wAt l 0 / 2 = i ∧ cellN (wAt l 0) = i ∧ ((r = [] ∧ wAt l (c.cellP 1 i) = 0) ∨ (∃ j r', r = j :: r' ∧ isCell (wAt l (c.cellP 1 i)) = true ∧ cellN (wAt l (c.cellP 1 i)) = j ∧ popList c (l.set 0 (wAt l (c.cellP 1 i))) = some r)) := by
  obtain ⟨⟨h1, h2, h3, h4⟩, hn, hz⟩ := (popList_iff hl _).1 h
  have hcn : cellN (wAt l 0) = i := by unfold cellN; rw [if_pos (isCell_two h1)]; exact h2
  refine ⟨h1, h2, hcn, ?_⟩
  cases r with
  | nil => exact .inl ⟨rfl, h4⟩
  | cons j r' =>
    right
    obtain ⟨h5, h6, h7, h8⟩ := h4
    refine ⟨j, r', rfl, h5, by unfold cellN; rw [if_pos (isCell_two h5)]; exact h6, ?_⟩
    have hset : ∀ k, wAt (l.set 0 (wAt l (c.cellP 1 i))) k = if k = 0 then wAt l (c.cellP 1 i) else wAt l k := fun k => by
      have := wAt_set (ws := l) (i := 0) (j := k) (x := wAt l (c.cellP 1 i)) (by omega)
      simpa using this
    rw [popList_iff (fun k => by rw [hset]; split <;> exact hl _)]
    refine ⟨?_, (List.nodup_cons.1 hn).2, by simp⟩
    rw [hset, if_pos rfl]
    exact Chain.congr _ _ (fun k _ => by rw [hset, if_neg (cdr_ne0 hR k)]) ⟨h5, h6, h7, h8⟩

end Go.Proofs.Ytnhnbgkhbhgifaa
