/- The plain law of a sweep with nobody else about. No program is named here. -/
import Derived.Test.YtnhnbgkhbhgifaaChain
import Derived.Test.YtnhnbgkhbhgifaaPassMP
namespace Go.Proofs.Ytnhnbgkhbhgifaa
open Go.RowKit
set_option linter.unusedVariables false
set_option linter.unusedSimpArgs false

/-- The white ones of the first k cells. -/
def whites (c : Cfg) (l : List Int) : Nat → List Int
  | 0 => []
  | k + 1 => whites c l k ++ (if wAt l (c.cellP 2 k) = 0 then [(k : Int)] else [])
theorem whites_mem {c : Cfg} {l : List Int} (k : Nat) (j : Int) (h : j ∈ whites c l k) : 0 ≤ j ∧ j < k ∧ wAt l (c.cellP 2 j) = 0 := by
  induction k with
  | zero => simp [whites] at h
  | succ k ih =>
    rw [whites] at h
    rcases List.mem_append.1 h with h | h
    · have := ih h; exact ⟨this.1, by omega, this.2.2⟩
    · split at h
      · simp at h; subst h; exact ⟨by omega, by omega, by assumption⟩
      · simp at h
theorem cellW_is {j : Int} (h : 0 ≤ j ∧ j < 4096) : isCell (cellW j) = true ∧ cellW j / 2 = j := by
  unfold cellW
  rw [if_pos h]
  refine ⟨?_, by omega⟩
  simp [isCell]; omega
theorem Chain.snoc {c : Cfg} (hR : c.Right) {a b : List Int} {t j : Int} (hj : 0 ≤ j ∧ j < c.cells) (ht : wAt b (c.cellP 1 t) = cellW j) (hz : wAt b (c.cellP 1 j) = 0) : ∀ (L : List Int) (u : Int), L.Nodup → L.getLast? = some t → (∀ i, i ∈ L → i ≠ t → wAt b (c.cellP 1 i) = wAt a (c.cellP 1 i)) → Chain c a u L → Chain c b u (L ++ [j]) := by
  intro L
  induction L with
  | nil => intro u _ h; simp at h
  | cons i r ih =>
    rintro u hn hl he ⟨h1, h2, h3, h4⟩
    refine ⟨h1, h2, h3, ?_⟩
    obtain ⟨n1, n2⟩ := List.nodup_cons.1 hn
    have hc1 := hR.c1
    cases r with
    | nil =>
      simp at hl
      subst hl
      rw [ht]
      obtain ⟨q1, q2⟩ := cellW_is (j := j) (by omega)
      exact ⟨q1, q2, hj.2, hz⟩
    | cons i2 r2 =>
      have hl2 : (i2 :: r2).getLast? = some t := by rw [← hl]; simp
      have hne : i ≠ t := by
        rintro rfl
        exact n1 (List.mem_of_getLast? hl2)
      rw [he i List.mem_cons_self hne]
      exact ih _ n2 hl2 (fun k hk => he k (List.mem_cons_of_mem _ hk)) h4
theorem Chain.last {c : Cfg} {l : List Int} {t : Int} : ∀ (L : List Int) (u : Int), L.getLast? = some t → Chain c l u L → wAt l (c.cellP 1 t) = 0 := by
  intro L
  induction L with
  | nil => intro u h; simp at h
  | cons i r ih =>
    rintro u hl ⟨h1, h2, h3, h4⟩
    cases r with
    | nil => simp at hl; subst hl; exact h4
    | cons i2 r2 => exact ih _ (by rw [← hl]; simp) h4

/-- The words when the first i cells have been swept; t0, t: the last one of the list at first, and now. -/
structure SwW (c : Cfg) (l L ws : List Int) (i : Nat) (t0 t : Int) : Prop where
  len : ws.length = l.length
  low : ∀ k, k < c.cA → wAt ws k = wAt l k
  col : ∀ j : Int, 0 ≤ j → j < c.cells → wAt ws (c.cellP 2 j) = if j < i ∧ wAt l (c.cellP 2 j) = 2 then 0 else wAt l (c.cellP 2 j)
  car : ∀ j : Int, 0 ≤ j → j < c.cells → wAt ws (c.cellP 0 j) = if j < i ∧ wAt l (c.cellP 2 j) = 0 then 0 else wAt l (c.cellP 0 j)
  cdr : ∀ j : Int, 0 ≤ j → j < c.cells → wAt l (c.cellP 2 j) ≠ 0 → j ≠ t0 → wAt ws (c.cellP 1 j) = wAt l (c.cellP 1 j)
  nodup : (L ++ whites c l i).Nodup
  last : (L ++ whites c l i).getLast? = some t
  chain : Chain c ws (wAt l 0) (L ++ whites c l i)
theorem wAt_set1 {c : Cfg} (hR : c.Right) {ws : List Int} (hl : (ws.length : Int) = c.words) {p j : Int} (hp : 0 ≤ p ∧ p ≤ 2) (hj : 0 ≤ j ∧ j < c.cells) (v k : Int) : wAt ((aStore (c.cellP p j) v).ws ws) k = if k = c.cA + p + j * 3 then v else wAt ws k := by
  have hA := cA_lo hR
  have hlt := cellP_lt hR p j hp
  rw [cellP_eq hj] at hlt ⊢
  have hb : 0 ≤ c.cA + p + j * 3 ∧ c.cA + p + j * 3 < (ws.length : Int) := ⟨by omega, by omega⟩
  rw [aStore_wsM _ _ _ hb, wAt_set hb]
/-- A cell that is left as it is. -/
theorem SwW.skip {c : Cfg} {l L ws : List Int} {i : Nat} {t0 t : Int} (h : SwW c l L ws i t0 t) (h0 : wAt l (c.cellP 2 i) ≠ 0) (h2 : wAt l (c.cellP 2 i) ≠ 2) : SwW c l L ws (i + 1) t0 t := by
  have hw : whites c l (i + 1) = whites c l i := by rw [whites, if_neg h0]; simp
  refine ⟨h.len, h.low, ?_, ?_, h.cdr, by rw [hw]; exact h.nodup, by rw [hw]; exact h.last, by rw [hw]; exact h.chain⟩
  · intro j j0 j1
    rw [h.col j j0 j1]
    by_cases e : j = i
    · subst e; rw [if_neg (by omega), if_neg (by omega)]
    · by_cases q : j < i ∧ wAt l (c.cellP 2 j) = 2
      · rw [if_pos q, if_pos ⟨by omega, q.2⟩]
      · rw [if_neg q, if_neg (by omega)]
  · intro j j0 j1
    rw [h.car j j0 j1]
    by_cases e : j = i
    · subst e; rw [if_neg (by omega), if_neg (by omega)]
    · by_cases q : j < i ∧ wAt l (c.cellP 2 j) = 0
      · rw [if_pos q, if_pos ⟨by omega, q.2⟩]
      · rw [if_neg q, if_neg (by omega)]
/-- A black one becomes white. -/
theorem SwW.white {c : Cfg} (hR : c.Right) {l L ws : List Int} (hl : (l.length : Int) = c.words) {i : Nat} (hi : (i : Int) < c.cells) {t0 t : Int} (h : SwW c l L ws i t0 t) (h2 : wAt l (c.cellP 2 i) = 2) : SwW c l L ((aStore (c.cellP 2 i) 0).ws ws) (i + 1) t0 t := by
  have hA := cA_lo hR
  have hs := fun k => wAt_set1 hR (ws := ws) (by rw [h.len]; exact hl) (p := 2) (j := i) (by omega) ⟨by omega, hi⟩ 0 k
  have hw : whites c l (i + 1) = whites c l i := by rw [whites, if_neg (by omega)]; simp
  refine ⟨by rw [Acc.ws_len]; exact h.len, ?_, ?_, ?_, ?_, by rw [hw]; exact h.nodup, by rw [hw]; exact h.last, ?_⟩
  · intro k hk
    rw [hs, if_neg (by omega)]; exact h.low k hk
  · intro j j0 j1
    rw [hs]
    have hc := h.col j j0 j1
    have ej := cellP_eq (c := c) (p := 2) ⟨j0, j1⟩
    by_cases e : j = i
    · subst e; rw [if_pos ej, if_pos ⟨by omega, h2⟩]
    · rw [if_neg (by omega), hc]
      by_cases q : j < i ∧ wAt l (c.cellP 2 j) = 2
      · rw [if_pos q, if_pos ⟨by omega, q.2⟩]
      · rw [if_neg q, if_neg (by omega)]
  · intro j j0 j1
    have ej := cellP_eq (c := c) (p := 0) ⟨j0, j1⟩
    rw [hs, if_neg (by omega), h.car j j0 j1]
    by_cases e : j = i
    · subst e; rw [if_neg (by omega), if_neg (by omega)]
    · by_cases q : j < i ∧ wAt l (c.cellP 2 j) = 0
      · rw [if_pos q, if_pos ⟨by omega, q.2⟩]
      · rw [if_neg q, if_neg (by omega)]
  · intro j j0 j1 q1 q2
    have ej := cellP_eq (c := c) (p := 1) ⟨j0, j1⟩
    rw [hs, if_neg (by omega)]; exact h.cdr j j0 j1 q1 q2
  · rw [hw]
    refine Chain.congr _ _ ?_ h.chain
    intro j _
    rw [hs, if_neg]
    unfold Cfg.cellP pAt
    split <;> omega
/-- A white one is cleared and appended. -/
theorem SwW.append {c : Cfg} (hR : c.Right) {l L ws : List Int} (hl : (l.length : Int) = c.words) (hlz : ∀ k, 0 ≤ wAt l k) {i : Nat} (hi : (i : Int) < c.cells) {t0 t : Int} (ht : 0 ≤ t ∧ t < c.cells) (hLc : ∀ j, j ∈ L → wAt l (c.cellP 2 j) ≠ 0) (ht0 : i = 0 ∨ True) (htt : t = t0 ∨ wAt l (c.cellP 2 t) = 0)
    (h : SwW c l L ws i t0 t) (h0 : wAt l (c.cellP 2 i) = 0) : SwW c l L ((aStore (c.cellP 1 t) (cellW i)).ws ((aStore (c.cellP 1 i) 0).ws ((aStore (c.cellP 0 i) 0).ws ws))) (i + 1) t0 i := by
  have hA := cA_lo hR
  have hs1 := fun k => wAt_set1 hR (ws := ws) (by rw [h.len]; exact hl) (p := 0) (j := i) (by omega) ⟨by omega, hi⟩ 0 k
  have hs2 := fun k => wAt_set1 hR (ws := (aStore (c.cellP 0 i) 0).ws ws) (by rw [Acc.ws_len, h.len]; exact hl) (p := 1) (j := i) (by omega) ⟨by omega, hi⟩ 0 k
  have hs3 := fun k => wAt_set1 hR (ws := (aStore (c.cellP 1 i) 0).ws ((aStore (c.cellP 0 i) 0).ws ws)) (by rw [Acc.ws_len, Acc.ws_len, h.len]; exact hl) (p := 1) (j := t) (by omega) ht (cellW i) k
  have hw : whites c l (i + 1) = whites c l i ++ [(i : Int)] := by rw [whites, if_pos h0]
  have hni : (i : Int) ∉ L ++ whites c l i := by
    intro hm
    rcases List.mem_append.1 hm with q | q
    · exact hLc _ q h0
    · have := whites_mem i _ q; omega
  have hti : t ≠ i := by
    rintro rfl
    exact hni (List.mem_of_getLast? h.last)
  refine ⟨by rw [Acc.ws_len, Acc.ws_len, Acc.ws_len]; exact h.len, ?_, ?_, ?_, ?_, ?_, ?_, ?_⟩
  · intro k hk
    rw [hs3, if_neg (by omega), hs2, if_neg (by omega), hs1, if_neg (by omega)]; exact h.low k hk
  · intro j j0 j1
    have ej := cellP_eq (c := c) (p := 2) ⟨j0, j1⟩
    rw [hs3, if_neg (by omega), hs2, if_neg (by omega), hs1, if_neg (by omega), h.col j j0 j1]
    by_cases e : j = i
    · subst e; rw [if_neg (by omega), if_neg (by omega)]
    · by_cases q : j < i ∧ wAt l (c.cellP 2 j) = 2
      · rw [if_pos q, if_pos ⟨by omega, q.2⟩]
      · rw [if_neg q, if_neg (by omega)]
  · intro j j0 j1
    have ej := cellP_eq (c := c) (p := 0) ⟨j0, j1⟩
    rw [hs3, if_neg (by omega), hs2, if_neg (by omega), hs1]
    by_cases e : j = i
    · subst e; rw [if_pos ej, if_pos ⟨by omega, h0⟩]
    · rw [if_neg (by omega), h.car j j0 j1]
      by_cases q : j < i ∧ wAt l (c.cellP 2 j) = 0
      · rw [if_pos q, if_pos ⟨by omega, q.2⟩]
      · rw [if_neg q, if_neg (by omega)]
  · intro j j0 j1 q1 q2
    have ej := cellP_eq (c := c) (p := 1) ⟨j0, j1⟩
    have e1 : j ≠ i := by rintro rfl; exact q1 h0
    have e2 : j ≠ t := by
      rintro rfl
      rcases htt with q | q
      · exact q2 q
      · exact q1 q
    rw [hs3, if_neg (by omega), hs2, if_neg (by omega), hs1, if_neg (by omega)]; exact h.cdr j j0 j1 q1 q2
  · rw [hw, ← List.append_assoc]
    exact List.nodup_append.2 ⟨h.nodup, by simp, by intro a ha b hb; simp at hb; subst hb; rintro rfl; exact hni ha⟩
  · rw [hw, ← List.append_assoc]; simp
  · rw [hw, ← List.append_assoc]
    have et := cellP_eq (c := c) (p := 1) ht
    have ei := cellP_eq (c := c) (p := 1) (i := (i : Int)) ⟨by omega, hi⟩
    refine Chain.snoc hR (a := ws) (t := t) ⟨by omega, hi⟩ ?_ ?_ _ _ h.nodup h.last ?_ h.chain
    · rw [hs3, if_pos et]
    · rw [hs3, if_neg (by omega), hs2, if_pos ei]
    · intro j hj hjt
      have hji : j ≠ i := by rintro rfl; exact hni hj
      have hne : ∀ q, 0 ≤ q → q < c.cells → j ≠ q → c.cellP 1 j ≠ c.cA + 1 + q * 3 := by
        intro q q0 q1 hq
        unfold Cfg.cellP pAt
        split <;> omega
      rw [hs3, if_neg (hne t ht.1 ht.2 hjt), hs2, if_neg (hne i (by omega) hi hji), hs1, if_neg]
      unfold Cfg.cellP pAt
      split <;> omega

/-- How the collector stands behind n steps of a sweep; W is the list by then. -/
inductive SwAt (c : Cfg) (l L : List Int) (t0 : Int) (n : Nat) (W : List Int) (s : HS) (x : ColV) : Prop where
  | a (i : Nat) (t : Int) (hi : (i : Int) < c.cells) (hn : n ≤ 4 * i) (hW : W = L ++ whites c l i) (hc : s.c = c) (hw : SwW c l L s.ws i t0 t) (hx : x = ⟨20, 0, i, 0, 0, 0, false, t, 0⟩)
  | b (i : Nat) (t : Int) (hi : (i : Int) < c.cells) (hn : n ≤ 4 * i + 1) (hW : W = L ++ whites c l i) (hc : s.c = c) (h0 : wAt l (c.cellP 2 i) = 0) (hw : SwW c l L s.ws i t0 t) (hx : x = ⟨21, 0, i, 0, 0, 0, false, t, 0⟩)
  | c (i : Nat) (t : Int) (hi : (i : Int) < c.cells) (hn : n ≤ 4 * i + 2) (hW : W = L ++ whites c l i) (hc : s.c = c) (h0 : wAt l (c.cellP 2 i) = 0) (ws : List Int) (hw : SwW c l L ws i t0 t) (hs : s.ws = (aStore (c.cellP 0 i) 0).ws ws) (hx : x = ⟨22, 0, i, 0, 0, 0, false, t, 0⟩)
  | d (i : Nat) (t : Int) (hi : (i : Int) < c.cells) (hn : n ≤ 4 * i + 3) (hW : W = L ++ whites c l i) (hc : s.c = c) (h0 : wAt l (c.cellP 2 i) = 0) (ws : List Int) (hw : SwW c l L ws i t0 t) (hs : s.ws = (aStore (c.cellP 1 i) 0).ws ((aStore (c.cellP 0 i) 0).ws ws)) (hx : x = ⟨23, 0, i, 0, 0, 0, false, t, 0⟩)
  | e (i : Nat) (t : Int) (hi : (i : Int) < c.cells) (hn : n ≤ 4 * i + 1) (hW : W = L ++ whites c l i) (hc : s.c = c) (h2 : wAt l (c.cellP 2 i) = 2) (hw : SwW c l L s.ws i t0 t) (hx : x = ⟨24, 0, i, 0, 0, 0, false, t, 0⟩)
  | over (i : Nat) (t : Int) (hi : (i : Int) = c.cells) (hn : n ≤ 4 * i) (hW : W = L ++ whites c l i) (hc : s.c = c) (hw : SwW c l L s.ws i t0 t) (hx : x = ⟨1, 0, i, 0, 0, 0, false, t, 1⟩)
theorem SwAt.cfg {c : Cfg} {l L : List Int} {t0 : Int} {n : Nat} {W : List Int} {s : HS} {x : ColV} (h : SwAt c l L t0 n W s x) : s.c = c := by cases h <;> assumption
theorem SwW.tail {c : Cfg} {l L ws : List Int} {i : Nat} (hi : (i : Int) ≤ c.cells) {t0 t : Int} (hL : ∀ j, j ∈ L → 0 ≤ j ∧ j < c.cells) (hl0 : L.getLast? = some t0) (h : SwW c l L ws i t0 t) : (0 ≤ t ∧ t < c.cells) ∧ (t = t0 ∨ wAt l (c.cellP 2 t) = 0) := by
  have hl := h.last
  have hm := List.mem_of_getLast? hl
  constructor
  · rcases List.mem_append.1 hm with q | q
    · exact hL _ q
    · have := whites_mem i _ q; omega
  · rw [List.getLast?_append] at hl
    cases hw : (whites c l i).getLast? with
    | none => rw [hw] at hl; simp [hl0] at hl; exact .inl hl.symm
    | some u =>
      rw [hw] at hl
      simp at hl
      subst hl
      exact .inr (whites_mem i _ (List.mem_of_getLast? hw)).2.2
/-- Is a cell appended by this step? -/
def appB (what : Int) : Bool := what == 2 || what == 5
theorem SwAt.go {c : Cfg} {l L : List Int} {t0 : Int} {n i : Nat} {t : Int} {W : List Int} {s : HS} (hi : (i : Int) < c.cells) (hn : n ≤ 4 * (i + 1)) (hW : W = L ++ whites c l (i + 1)) (hc : s.c = c) (hw : SwW c l L s.ws (i + 1) t0 t) (ln what : Int) :
    SwAt c l L t0 n W (swNext c ⟨ln, 0, i, 0, 0, 0, false, t, 0⟩ what s).s (swNext c ⟨ln, 0, i, 0, 0, 0, false, t, 0⟩ what s).x ∧ (swNext c ⟨ln, 0, i, 0, 0, 0, false, t, 0⟩ what s).is = true ∧ ((swNext c ⟨ln, 0, i, 0, 0, 0, false, t, 0⟩ what s).what = what ∨ (swNext c ⟨ln, 0, i, 0, 0, 0, false, t, 0⟩ what s).what = what + 3) := by
  unfold swNext
  simp only
  by_cases h1 : (i : Int) + 1 < c.cells
  · rw [if_pos h1]
    exact ⟨.a (i + 1) t (by omega) hn hW hc hw rfl, rfl, .inl rfl⟩
  · rw [if_neg h1]
    exact ⟨.over (i + 1) t (by omega) hn hW hc hw rfl, rfl, .inr rfl⟩
theorem SwAt.step {c : Cfg} (hR : c.Right) {l L : List Int} (hl : (l.length : Int) = c.words) (hlz : ∀ k, 0 ≤ wAt l k) {t0 : Int} (hL : ∀ j, j ∈ L → 0 ≤ j ∧ j < c.cells) (hl0 : L.getLast? = some t0) (hLc : ∀ j, j ∈ L → wAt l (c.cellP 2 j) ≠ 0) {n : Nat} {W : List Int} {s : HS} {x : ColV} (h : SwAt c l L t0 n W s x) (hx : 20 ≤ x.line) :
    (swM s x).is = true ∧ SwAt c l L t0 (n + 1) (if appB (swM s x).what = true then W ++ [x.c] else W) (swM s x).s (swM s x).x := by
  have hap : ∀ w : Int, (w = 0 ∨ w = 0 + 3) → appB w = false := by rintro w (rfl | rfl) <;> rfl
  have hap2 : ∀ w : Int, (w = 2 ∨ w = 2 + 3) → appB w = true := by rintro w (rfl | rfl) <;> rfl
  cases h with
  | a i t hi hn hW hc hw e =>
    subst e
    obtain ⟨c', ws, acc⟩ := s
    simp only at hc hw
    subst hc
    have hcol := hw.col i (by omega) hi
    rw [if_neg (by omega)] at hcol
    unfold swM
    simp only [if_true]
    rw [hcol]
    have hw' : SwW c' l L ((aLoad (c'.cellP 2 i)).ws ws) i t0 t := by rw [aLoad_ws0]; exact hw
    by_cases h0 : wAt l (c'.cellP 2 i) = 0
    · rw [if_pos h0]
      exact ⟨rfl, .b i t hi (by omega) hW rfl h0 hw' rfl⟩
    · rw [if_neg h0]
      by_cases h2 : wAt l (c'.cellP 2 i) = 2
      · rw [if_pos h2]
        exact ⟨rfl, .e i t hi (by omega) hW rfl h2 hw' rfl⟩
      · rw [if_neg h2]
        have hww : whites c' l (i + 1) = whites c' l i := by rw [whites, if_neg h0]; simp
        obtain ⟨g1, g2, g3⟩ := SwAt.go (W := W) (n := n + 1) (s := (⟨c', ws, acc⟩ : HS).doIt (aLoad (c'.cellP 2 i))) hi (by omega) (by rw [hww]; exact hW) rfl (hw'.skip h0 h2) 20 0
        rw [hap _ g3]
        exact ⟨g2, by simpa using g1⟩
  | b i t hi hn hW hc h0 hw e =>
    subst e
    obtain ⟨c', ws, acc⟩ := s
    simp only at hc hw
    subst hc
    exact ⟨rfl, .c i t hi (by omega) hW rfl h0 ws hw rfl rfl⟩
  | c i t hi hn hW hc h0 ws0 hw hs e =>
    subst e
    obtain ⟨c', ws, acc⟩ := s
    simp only at hc hs
    subst hc; subst hs
    exact ⟨rfl, .d i t hi (by omega) hW rfl h0 ws0 hw rfl rfl⟩
  | d i t hi hn hW hc h0 ws0 hw hs e =>
    subst e
    obtain ⟨c', ws, acc⟩ := s
    simp only at hc hs
    subst hc; subst hs
    obtain ⟨ht, htt⟩ := hw.tail (by omega) hL hl0
    have hw2 := hw.append hR hl hlz hi ht hLc (.inr trivial) htt h0
    have hww : whites c' l (i + 1) = whites c' l i ++ [(i : Int)] := by rw [whites, if_pos h0]
    unfold swM
    simp only [show ¬ (23 : Int) = 20 by omega, show ¬ (23 : Int) = 21 by omega, show ¬ (23 : Int) = 22 by omega, if_false, if_true]
    obtain ⟨g1, g2, g3⟩ := SwAt.go (W := W ++ [(i : Int)]) (n := n + 1) (s := (⟨c', (aStore (c'.cellP 1 i) 0).ws ((aStore (c'.cellP 0 i) 0).ws ws0), acc⟩ : HS).doIt (aStore (c'.cellP 1 t) (cellW i))) hi (by omega) (by rw [hww, hW, List.append_assoc]) rfl hw2 23 2
    rw [hap2 _ g3]
    exact ⟨g2, by simpa using g1⟩
  | e i t hi hn hW hc h2 hw e =>
    subst e
    obtain ⟨c', ws, acc⟩ := s
    simp only at hc hw
    subst hc
    have hw2 := hw.white hR hl hi h2
    have hww : whites c' l (i + 1) = whites c' l i := by rw [whites, if_neg (by omega)]; simp
    unfold swM
    simp only [show ¬ (24 : Int) = 20 by omega, show ¬ (24 : Int) = 21 by omega, show ¬ (24 : Int) = 22 by omega, show ¬ (24 : Int) = 23 by omega, if_false, if_true]
    obtain ⟨g1, g2, g3⟩ := SwAt.go (W := W) (n := n + 1) (s := (⟨c', ws, acc⟩ : HS).doIt (aStore (c'.cellP 2 i) 0)) hi (by omega) (by rw [hww]; exact hW) rfl hw2 24 0
    rw [hap _ g3]
    exact ⟨g2, by simpa using g1⟩
  | over i t hi hn hW hc hw e => subst e; simp at hx
theorem SwAt.first {c : Cfg} (hR : c.Right) {l L : List Int} (hlz : ∀ k, 0 ≤ wAt l k) {t0 : Int} (hL : popList c l = some L) (hl0 : L.getLast? = some t0) {s : HS} (hc : s.c = c) (hw : s.ws = l) : SwAt c l L t0 0 L s ⟨20, 0, 0, 0, 0, 0, false, t0, 0⟩ := by
  have := hR.c0
  obtain ⟨h1, h2, h3⟩ := (popList_iff hlz L).1 hL
  refine .a 0 t0 (by omega) (by omega) (by simp [whites]) hc ?_ rfl
  rw [hw]
  exact ⟨rfl, fun _ _ => rfl, fun j _ _ => by rw [if_neg (by omega)], fun j _ _ => by rw [if_neg (by omega)], fun _ _ _ _ _ => rfl, by simpa [whites] using h2, by simpa [whites] using hl0, by simpa [whites] using h1⟩
theorem SwAt.wf {c : Cfg} (hR : c.Right) {l L : List Int} {t0 : Int} (hL : ∀ j, j ∈ L → 0 ≤ j ∧ j < c.cells) (hl0 : L.getLast? = some t0) {n : Nat} {W : List Int} {s : HS} {x : ColV} (h : SwAt c l L t0 n W s x) : x.Wf ∧ x.Near := by
  have h1 := hR.c1
  cases h with
  | a i t hi hn hW hc hw e => subst e; have := (hw.tail (by omega) hL hl0).1; exact ⟨by constructor <;> simp only <;> omega, by constructor <;> simp only <;> omega⟩
  | b i t hi hn hW hc h0 hw e => subst e; have := (hw.tail (by omega) hL hl0).1; exact ⟨by constructor <;> simp only <;> omega, by constructor <;> simp only <;> omega⟩
  | c i t hi hn hW hc h0 ws hw hs e => subst e; have := (hw.tail (by omega) hL hl0).1; exact ⟨by constructor <;> simp only <;> omega, by constructor <;> simp only <;> omega⟩
  | d i t hi hn hW hc h0 ws hw hs e => subst e; have := (hw.tail (by omega) hL hl0).1; exact ⟨by constructor <;> simp only <;> omega, by constructor <;> simp only <;> omega⟩
  | e i t hi hn hW hc h2 hw e => subst e; have := (hw.tail (by omega) hL hl0).1; exact ⟨by constructor <;> simp only <;> omega, by constructor <;> simp only <;> omega⟩
  | over i t hi hn hW hc hw e => subst e; have := (hw.tail (by omega) hL hl0).1; exact ⟨by constructor <;> simp only <;> omega, by constructor <;> simp only <;> omega⟩
theorem SwAt.len {c : Cfg} {l L : List Int} {t0 : Int} {n : Nat} {W : List Int} {s : HS} {x : ColV} (h : SwAt c l L t0 n W s x) : (n : Int) ≤ 4 * c.cells ∧ (20 ≤ x.line → (n : Int) < 4 * c.cells) := by
  cases h <;> (rename_i e; subst e; constructor <;> (try intro h) <;> first | omega | (simp at h))
/-- At its end. -/
theorem SwAt.ends {c : Cfg} (hR : c.Right) {l L : List Int} (hl : (l.length : Int) = c.words) (hlz : ∀ k, 0 ≤ wAt l k) {t0 : Int} {n : Nat} {W : List Int} {s : HS} {x : ColV} (h : SwAt c l L t0 n W s x) (hx : ¬ 20 ≤ x.line) (hsz : ∀ k, 0 ≤ wAt s.ws k) :
    x.line = 1 ∧ x.cyc = 1 ∧ s.ws.length = l.length ∧ popList c s.ws = some W ∧ (∀ k, k < c.cA → wAt s.ws k = wAt l k) ∧
    (∀ j : Int, 0 ≤ j → j < c.cells → wAt s.ws (c.cellP 2 j) = (if wAt l (c.cellP 2 j) = 2 then 0 else wAt l (c.cellP 2 j)) ∧ wAt s.ws (c.cellP 0 j) = (if wAt l (c.cellP 2 j) = 0 then 0 else wAt l (c.cellP 0 j)) ∧ (wAt l (c.cellP 2 j) ≠ 0 → j ≠ t0 → wAt s.ws (c.cellP 1 j) = wAt l (c.cellP 1 j))) := by
  cases h with
  | over i t hi hn hW hc hw e =>
    subst e
    have hA := cA_lo hR
    refine ⟨rfl, rfl, hw.len, ?_, hw.low, ?_⟩
    · rw [popList_iff hsz]
      rw [hW, hw.low 0 (by omega)]
      refine ⟨hw.chain, hw.nodup, ?_⟩
      intro e0
      have := hw.last
      rw [e0] at this; simp at this
    · intro j j0 j1
      refine ⟨?_, ?_, hw.cdr j j0 j1⟩
      · rw [hw.col j j0 j1]
        by_cases q : wAt l (c.cellP 2 j) = 2
        · rw [if_pos ⟨by omega, q⟩, if_pos q]
        · rw [if_neg (fun z => q z.2), if_neg q]
      · rw [hw.car j j0 j1]
        by_cases q : wAt l (c.cellP 2 j) = 0
        · rw [if_pos ⟨by omega, q⟩, if_pos q]
        · rw [if_neg (fun z => q z.2), if_neg q]
  | a i t hi hn hW hc hw e => subst e; simp at hx
  | b i t hi hn hW hc h0 hw e => subst e; simp at hx
  | c i t hi hn hW hc h0 ws hw hs e => subst e; simp at hx
  | d i t hi hn hW hc h0 ws hw hs e => subst e; simp at hx
  | e i t hi hn hW hc h2 hw e => subst e; simp at hx

end Go.Proofs.Ytnhnbgkhbhgifaa
