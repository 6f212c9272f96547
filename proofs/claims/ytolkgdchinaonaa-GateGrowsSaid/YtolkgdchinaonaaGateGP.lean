/- The plain law of one mutator at the gate, from its beginning to its end. No program is named here. -/
import Derived.Test.YtolkgdchinaonaaRootsP
namespace Go.Proofs.Ytolkgdchinaonaa
open Go.RowKit
set_option linter.unusedVariables false
set_option linter.unusedSimpArgs false

theorem aAdd_at (ws : List Int) (i x : Int) (k : Int) (hi : 0 ≤ i ∧ i < ws.length) : wAt ((aAdd i x).ws ws) k = if k = i then addW (wAt ws i) x else wAt ws k := by
  unfold Acc.ws
  rw [if_pos (by simp [Acc.ok, aAdd, hi])]
  show wAt (ws.set i.toNat _) k = _
  rw [wAt_set hi]
  simp [Acc.new, aAdd]
theorem aStore_at (ws : List Int) (i x : Int) (k : Int) (hi : 0 ≤ i ∧ i < ws.length) : wAt ((aStore i x).ws ws) k = if k = i then x else wAt ws k := by
  unfold Acc.ws
  rw [if_pos (by simp [Acc.ok, aStore, hi])]
  show wAt (ws.set i.toNat _) k = _
  rw [wAt_set hi]
  simp [Acc.new, aStore]
def cfg1 : Cfg := ⟨2, 1, 1, 0⟩
/-- What the words say: the mutator's in, and the gate. -/
structure GW (s : HS) (v g : Int) : Prop where
  c : s.c = cfg1
  len : s.ws.length = 13
  inn : wAt s.ws 5 = v
  gate : wAt s.ws 1 = g
theorem GW.load {s : HS} {v g : Int} (h : GW s v g) (i : Int) : GW (s.doIt (aLoad i)) v g := by
  have e : (s.doIt (aLoad i)).ws = s.ws := aLoad_ws0 i s.ws
  exact ⟨h.c, by rw [e]; exact h.len, by rw [e]; exact h.inn, by rw [e]; exact h.gate⟩
theorem GW.add {s : HS} {v g : Int} (h : GW s v g) (k : Int) (h0 : 0 ≤ v + k) (h1 : v + k < 18446744073709551616) : GW (s.doIt (aAdd 5 k)) (v + k) g := by
  refine ⟨h.c, ?_, ?_, ?_⟩
  · show ((aAdd 5 k).ws s.ws).length = 13
    rw [Acc.ws_len]; exact h.len
  · show wAt ((aAdd 5 k).ws s.ws) 5 = _
    rw [aAdd_at _ _ _ _ (by rw [h.len]; omega), if_pos rfl, h.inn]
    unfold addW; omega
  · show wAt ((aAdd 5 k).ws s.ws) 1 = _
    rw [aAdd_at _ _ _ _ (by rw [h.len]; omega), if_neg (by omega)]; exact h.gate
theorem GW.stGate {s : HS} {v g : Int} (h : GW s v g) (k : Int) : GW (s.doIt (aStore 1 k)) v k := by
  refine ⟨h.c, ?_, ?_, ?_⟩
  · show ((aStore 1 k).ws s.ws).length = 13
    rw [Acc.ws_len]; exact h.len
  · show wAt ((aStore 1 k).ws s.ws) 5 = _
    rw [aStore_at _ _ _ _ (by rw [h.len]; omega), if_neg (by omega)]; exact h.inn
  · show wAt ((aStore 1 k).ws s.ws) 1 = _
    rw [aStore_at _ _ _ _ (by rw [h.len]; omega), if_pos rfl]
theorem GW.stIn {s : HS} {v g : Int} (h : GW s v g) (k : Int) : GW (s.doIt (aStore 5 k)) k g := by
  refine ⟨h.c, ?_, ?_, ?_⟩
  · show ((aStore 5 k).ws s.ws).length = 13
    rw [Acc.ws_len]; exact h.len
  · show wAt ((aStore 5 k).ws s.ws) 5 = _
    rw [aStore_at _ _ _ _ (by rw [h.len]; omega), if_pos rfl]
  · show wAt ((aStore 5 k).ws s.ws) 1 = _
    rw [aStore_at _ _ _ _ (by rw [h.len]; omega), if_neg (by omega)]; exact h.gate
/-- A mutator at a line, with the operation 'atom'. -/
def gX (line : Int) : MutV := ⟨line, 11, 0, 0, 0, 0, 0, 0, 0, 0, 0, 0, 0⟩
/-- How all stands behind k steps: N looks at a closed gate are to come; n of them are left; v: the in. -/
inductive GgAt (st : Int) (N : Nat) (k : Nat) (n : Int) (v : Int) (line : Int) (s : HS) : Prop where
  | a (hk : k = 0) (hl : line = 1) (hn : n = N) (hv : v = st) (hs : GW s v (if N = 0 then 0 else 1))
  | b (hk : k = 1) (hl : line = 2) (hn : n = N) (hv : v = st + 1) (hs : GW s v (if N = 0 then 0 else 1))
  | c0 (hN : N = 0) (hk : k = 2) (hl : line = 3) (hn : n = 0) (hv : v = st + 1) (hs : GW s v 0)
  | c (hN : 0 < N) (hk : k = 2) (hl : line = 4) (hn : n = N) (hv : v = st + 1) (hs : GW s v 1)
  | w (j : Nat) (hj : j < N) (hk : k = 3 + j) (hl : line = 5) (hn : n = N - j) (hv : v = st + 3) (hs : GW s v 1)
  | o (hN : 0 < N) (hk : k = 3 + N) (hl : line = 6) (hn : n = 0) (hv : v = st + 3) (hs : GW s v 0)
  | e0 (hN : N = 0) (hk : k = 3) (hl : line = 24) (hn : n = 0) (hv : v = st + 2) (hs : GW s v 0)
  | e (hN : 0 < N) (hk : k = 4 + N) (hl : line = 24) (hn : n = 0) (hv : v = st + 6) (hs : GW s v 0)
theorem inP1 {s : HS} (h : s.c = cfg1) : s.c.inP 0 = 5 := by rw [h]; decide
/-- A step where the mutator does not stand at line 5. -/
theorem GgAt.step {st : Int} {N k : Nat} {n v line : Int} {s : HS} (hst : 0 ≤ st ∧ st < 4611686018427387904) (h : GgAt st N k n v line s) (h5 : line ≠ 5) (h24 : line ≠ 24) :
    (gateM s 0 (gX line)).is = true ∧ ∃ v2 l2, v ≤ v2 ∧ (gateM s 0 (gX line)).x = gX l2 ∧ GgAt st N (k + 1) n v2 l2 (gateM s 0 (gX line)).s := by
  cases h with
  | a hk hl hn hv hs =>
    subst hl hv
    refine ⟨rfl, v + 1, 2, by omega, rfl, .b (by omega) rfl hn rfl ?_⟩
    show GW (s.doIt (aAdd (s.c.inP 0) 1)) _ _
    rw [inP1 hs.c]
    exact hs.add 1 (by omega) (by omega)
  | b hk hl hn hv hs =>
    subst hl hv
    by_cases hN : N = 0
    · rw [if_pos hN] at hs
      refine ⟨rfl, st + 1, 3, by omega, ?_, .c0 hN (by omega) rfl (by omega) rfl (hs.load 1)⟩
      show ({ gX 2 with line := if wAt s.ws 1 = 0 then 3 else 4 } : MutV) = gX 3
      rw [if_pos hs.gate]; rfl
    · rw [if_neg hN] at hs
      refine ⟨rfl, st + 1, 4, by omega, ?_, .c (by omega) (by omega) rfl hn rfl (hs.load 1)⟩
      show ({ gX 2 with line := if wAt s.ws 1 = 0 then 3 else 4 } : MutV) = gX 4
      rw [if_neg (by rw [hs.gate]; omega)]; rfl
  | c0 hN hk hl hn hv hs =>
    subst hl hv
    refine ⟨rfl, st + 1 + 1, 24, by omega, rfl, .e0 hN (by omega) rfl hn (by omega) ?_⟩
    show GW (s.doIt (aAdd (s.c.inP 0) 1)) _ _
    rw [inP1 hs.c]
    exact hs.add 1 (by omega) (by omega)
  | c hN hk hl hn hv hs =>
    subst hl hv
    refine ⟨rfl, st + 1 + 2, 5, by omega, rfl, .w 0 hN (by omega) rfl (by omega) (by omega) ?_⟩
    show GW (s.doIt (aAdd (s.c.inP 0) 2)) _ _
    rw [inP1 hs.c]
    exact hs.add 2 (by omega) (by omega)
  | w j hj hk hl => exact absurd hl h5
  | o hN hk hl hn hv hs =>
    subst hl hv
    refine ⟨rfl, st + 3 + 3, 24, by omega, rfl, .e hN (by omega) rfl hn (by omega) ?_⟩
    show GW (s.doIt (aAdd (s.c.inP 0) 3)) _ _
    rw [inP1 hs.c]
    exact hs.add 3 (by omega) (by omega)
  | e0 hN hk hl => exact absurd hl h24
  | e hN hk hl => exact absurd hl h24
/-- A look at the closed gate; the last one finds it open. -/
theorem GgAt.look {st : Int} {N k : Nat} {n v : Int} {s : HS} (h : GgAt st N k n v 5 s) :
    (n ≤ 1 → n = 1 ∧ ∃ l2, (gateM (s.doIt (aStore 1 0)) 0 (gX 5)).x = gX l2 ∧ (gateM (s.doIt (aStore 1 0)) 0 (gX 5)).is = true ∧ GgAt st N (k + 1) (n - 1) v l2 (gateM (s.doIt (aStore 1 0)) 0 (gX 5)).s) ∧
    (1 < n → ∃ l2, (gateM s 0 (gX 5)).x = gX l2 ∧ (gateM s 0 (gX 5)).is = true ∧ GgAt st N (k + 1) (n - 1) v l2 (gateM s 0 (gX 5)).s) := by
  cases h with
  | a hk hl => cases hl
  | b hk hl => cases hl
  | c0 hN hk hl => cases hl
  | c hN hk hl => cases hl
  | w j hj hk hl hn hv hs =>
    constructor
    · intro h1
      have hn1 : n = 1 := by omega
      refine ⟨hn1, 6, ?_, rfl, .o (by omega) (by omega) rfl (by omega) hv ((hs.stGate 0).load 1)⟩
      show ({ gX 5 with line := if wAt (s.doIt (aStore 1 0)).ws 1 = 0 then 6 else 5 } : MutV) = gX 6
      rw [if_pos (hs.stGate 0).gate]; rfl
    · intro h1
      refine ⟨5, ?_, rfl, .w (j + 1) (by omega) (by omega) rfl (by omega) hv (hs.load 1)⟩
      show ({ gX 5 with line := if wAt s.ws 1 = 0 then 6 else 5 } : MutV) = gX 5
      rw [if_neg (by rw [hs.gate]; omega)]; rfl
  | o hN hk hl => cases hl
  | e0 hN hk hl => cases hl
  | e hN hk hl => cases hl
theorem GgAt.facts {st : Int} {N k : Nat} {n v line : Int} {s : HS} (h : GgAt st N k n v line s) (hst : 0 ≤ st ∧ st < 4611686018427387904) :
    k ≤ N + 4 ∧ 0 ≤ n ∧ n ≤ N ∧ st ≤ v ∧ v ≤ st + 6 ∧ wAt s.ws 5 = v ∧ s.c = cfg1 ∧ (line = 5 → 1 ≤ n) ∧ (line = 24 → (N = 0 ∧ v = st + 2) ∨ (0 < N ∧ v = st + 6)) ∧ (line ≠ 24 → k ≤ N + 3) := by
  cases h <;> (rename_i hs; subst_vars; refine ⟨by omega, by omega, by omega, by omega, by omega, hs.inn, hs.c, by omega, by omega, by omega⟩)

end Go.Proofs.Ytolkgdchinaonaa
