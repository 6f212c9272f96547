/- A mutator's step: which word it changes. No program is named here. -/
import Derived.Test.YtfmjnooicjfbbaaAbs
namespace Go.Proofs.Ytfmjnooicjfbbaa
open Go.RowKit
set_option linter.unusedVariables false
set_option linter.unusedSimpArgs false

/-- The places that a mutator may write. -/
def ownPl (m : Int) : Pl → Prop
  | .inn k => k = m
  | .reg k _ => k = m
  | _ => True
theorem own_fPl (m u p : Int) : ownPl m (fPl u p) := by
  unfold fPl
  split
  · trivial
  · split <;> trivial
def ownU (m : Int) (u : Option (Pl × Int)) : Prop := ∀ p v, u = some (p, v) → ownPl m p
theorem ownU_none (m : Int) : ownU m none := fun _ _ h => nomatch h
theorem ownU_some {m : Int} {p : Pl} (v : Int) (h : ownPl m p) : ownU m (some (p, v)) := by
  intro q w e; cases e; exact h
theorem own_ite {m : Int} {P : Prop} [Decidable P] {a b : LA} (h1 : ownU m a.u) (h2 : ownU m b.u) : ownU m (if P then a else b).u := by split <;> assumption
set_option maxHeartbeats 4000000 in
theorem lispA_own (c : Cfg) (M : Pl → Int) (m : Int) (x : MutV) : ownU m (lispA c M m x).u := by
  unfold lispA
  repeat' (first | with_reducible refine own_ite ?_ ?_ | exact ownU_none m | exact ownU_some _ rfl | exact ownU_some _ trivial | exact ownU_some _ (own_fPl _ _ _))
theorem wr_other {c : Cfg} {M : Pl → Int} {m : Int} {u : Option (Pl × Int)} (h : ownU m u) {q : Pl} (hq : ¬ ownPl m q) : wr c M u q = M q := by
  cases u with
  | none => rfl
  | some pv =>
    obtain ⟨p, v⟩ := pv
    have := h p v rfl
    show (if q = p ∧ p.ok c then v else M q) = M q
    rw [if_neg]
    rintro ⟨rfl, _⟩
    exact hq this

/-- What a step of a mutator does to the words. -/
theorem touch {s : HS} (h : s.Fit) (m : Int) (x : MutV) :
    (lispM s m x).s.c = s.c ∧ (lispM s m x).s.ws.length = s.ws.length ∧ ∀ k : Nat, k < s.ws.length → wAt (lispM s m x).s.ws k = wAt s.ws k ∨
      ((lispM s m x).s.acc.at_ = k ∧ 2 ≤ (lispM s m x).s.acc.kind ∧ (lispM s m x).s.acc.old = wAt s.ws k ∧
        ∀ o : Int, 0 ≤ o → o < s.c.muts → o ≠ m → (k : Int) ≠ 5 + o ∧ ¬ ((5 + s.c.muts + s.c.globs + o * s.c.regs : Int) ≤ k ∧ (k : Int) < 5 + s.c.muts + s.c.globs + o * s.c.regs + s.c.regs)) := by
  obtain ⟨_, _, _, hb⟩ := lispM_abs h m x
  have hown := lispA_own s.c s.mem m x
  obtain ⟨s', hs'⟩ : ∃ z, z = (lispM s m x).s := ⟨_, rfl⟩
  rw [← hs'] at hb ⊢
  clear hs'
  obtain ⟨ha, hm⟩ := hb
  have hc : s'.c = s.c := by rcases ha with rfl | ⟨a, rfl⟩ <;> rfl
  have hq : ∀ q : Pl, q.ok s.c → ¬ ownPl m q → wAt s'.ws (s.c.at_ q) = wAt s.ws (s.c.at_ q) := by
    intro q _ hn
    have e1 := congrFun hm q
    rw [wr_other hown hn] at e1
    unfold HS.mem at e1
    rw [hc] at e1
    exact e1
  refine ⟨hc, ?_, ?_⟩
  · rcases ha with rfl | ⟨a, rfl⟩
    · rfl
    · exact Acc.ws_len a s.ws
  intro k hk
  by_cases he : wAt s'.ws k = wAt s.ws k
  · exact .inl he
  refine .inr ?_
  have hothers : ∀ o : Int, 0 ≤ o → o < s.c.muts → o ≠ m → (k : Int) ≠ 5 + o ∧ ¬ ((5 + s.c.muts + s.c.globs + o * s.c.regs : Int) ≤ k ∧ (k : Int) < 5 + s.c.muts + s.c.globs + o * s.c.regs + s.c.regs) := by
    intro o o0 o1 om
    refine ⟨fun e => he ?_, fun ⟨e1, e2⟩ => he ?_⟩
    · have := hq (.inn o) ⟨o0, o1⟩ om
      rw [show s.c.at_ (.inn o) = (k : Int) by simp only [Cfg.at_, Cfg.inP, pAt]; rw [if_pos ⟨o0, o1⟩]; omega] at this
      exact this
    · have := hq (.reg o (k - (5 + s.c.muts + s.c.globs + o * s.c.regs))) ⟨⟨o0, o1⟩, by omega, by omega⟩ om
      rw [show s.c.at_ (.reg o (k - (5 + s.c.muts + s.c.globs + o * s.c.regs))) = (k : Int) by
        simp only [Cfg.at_, Cfg.regP, pAt, Cfg.rA]
        rw [if_pos ⟨o0, o1⟩, if_pos ⟨by omega, by omega⟩]; omega] at this
      exact this
  rcases ha with rfl | ⟨a, rfl⟩
  · exact absurd rfl he
  · have hok : a.ok s.ws = true := by
      by_cases hok : a.ok s.ws = true
      · exact hok
      · exfalso; apply he
        show wAt (a.ws s.ws) k = _
        unfold Acc.ws; rw [if_neg hok]
    have hb := hok
    unfold Acc.ok at hb
    simp only [Bool.and_eq_true, decide_eq_true_eq] at hb
    obtain ⟨⟨⟨b1, b2⟩, b3⟩, b4⟩ := hb
    have hset : wAt (s.clear.doIt a).ws k = if (k : Int) = a.at_ then a.new (wAt s.ws a.at_) else wAt s.ws k := by
      show wAt (a.ws s.ws) k = _
      unfold Acc.ws; rw [if_pos hok]
      exact wAt_set ⟨b3, b4⟩
    have hat : (k : Int) = a.at_ := by
      by_cases e : (k : Int) = a.at_
      · exact e
      · rw [if_neg e] at hset; exact absurd hset he
    rw [if_pos hat] at hset
    have hk1 : a.kind ≠ 1 := by
      intro e
      apply he
      rw [hset, hat]
      unfold Acc.new
      rw [e]; rfl
    have hdone : (s.clear.doIt a).acc = { a with old := wAt s.ws a.at_ } := by
      show a.done s.ws = _
      unfold Acc.done; rw [if_pos hok]
    rw [hdone]
    exact ⟨hat.symm, by show 2 ≤ a.kind; omega, by show wAt s.ws a.at_ = _; rw [hat], hothers⟩

end Go.Proofs.Ytfmjnooicjfbbaa
