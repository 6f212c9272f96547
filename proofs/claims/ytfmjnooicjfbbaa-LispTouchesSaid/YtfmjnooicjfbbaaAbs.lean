/- A mutator's and a collector's step over a memory by places: which word is written, if any. No program is named here. -/
import Derived.Test.YtfmjnooicjfbbaaWorldP
import Derived.Test.YtfmjnooicjfbbaaRootsP
namespace Go.Proofs.Ytfmjnooicjfbbaa
open Go.RowKit
set_option linter.unusedVariables false
set_option linter.unusedSimpArgs false

/-- A memory with one word written, if any. -/
def wr (c : Cfg) (M : Pl → Int) : Option (Pl × Int) → Pl → Int
  | none, q => M q
  | some (p, v), q => if q = p ∧ p.ok c then v else M q
/-- A part of what a word is. -/
def fPl (u : Int) (p : Int) : Pl := if p = 0 then .car (cellN u) else if p = 1 then .cdr (cellN u) else .col (cellN u)
theorem fieldP_at (c : Cfg) (u p : Int) (h : 0 ≤ p ∧ p ≤ 2) : c.fieldP u p = c.at_ (fPl u p) := by
  by_cases hc : isCell u = true
  · rw [fieldP_of hc p h]
    unfold fPl Cfg.at_
    have : p = 0 ∨ p = 1 ∨ p = 2 := by omega
    rcases this with rfl | rfl | rfl <;> simp
  · have h0 : c.fieldP u p = -1 := by unfold Cfg.fieldP; rw [if_neg (fun hh => hc hh.1)]
    have h1 := cellN_none (u := u) (by simpa using hc)
    rw [h0, at_none]
    unfold fPl
    rw [h1]
    split
    · simp [Pl.ok]
    · split <;> simp [Pl.ok]

structure LA where
  x : MutV
  lin : Bool
  done : Bool
  u : Option (Pl × Int)
def partN (k : Int) : Int := halfP k
theorem partN_bd (k : Int) : 0 ≤ halfP k ∧ halfP k ≤ 2 := by unfold halfP; split <;> omega
/-- A mutator's step. -/
def lispA (c : Cfg) (M : Pl → Int) (m : Int) (x : MutV) : LA :=
  if x.line = 1 then ⟨{ x with line := 2 }, false, false, some (.inn m, addW (M (.inn m)) 1)⟩
  else if x.line = 2 then ⟨{ x with line := if M .gate = 0 then 3 else 4 }, false, false, none⟩
  else if x.line = 3 then ⟨{ x with line := gFirst x.ok }, false, false, some (.inn m, addW (M (.inn m)) 1)⟩
  else if x.line = 4 then ⟨{ x with line := 5 }, false, false, some (.inn m, addW (M (.inn m)) 2)⟩
  else if x.line = 5 then ⟨{ x with line := if M .gate = 0 then 6 else 5 }, false, false, none⟩
  else if x.line = 6 then ⟨{ x with line := gFirst x.ok }, false, false, some (.inn m, addW (M (.inn m)) 3)⟩
  else if x.line = 90 then ⟨{ x with line := 0 }, false, true, some (.inn m, addW (M (.inn m)) 2)⟩
  else if x.line = 32 then ⟨{ x with line := 33, t := M .next }, false, false, some (.next, addW (M .next) 1)⟩
  else if x.line = 33 then ⟨if M .serve = x.t then { x with line := 34 } else x, false, false, none⟩
  else if x.line = 37 then ⟨{ x with line := 38 }, false, false, some (.serve, addW (M .serve) 1)⟩
  else if x.line = 41 then ⟨{ x with line := 90 }, false, false, some (.serve, addW (M .serve) 1)⟩
  else if x.line = 34 then ⟨{ x with c := M .free, line := 35 }, false, false, none⟩
  else if x.line = 35 then (if isCell (M (fPl x.c 1)) = true then ⟨{ x with n := M (fPl x.c 1), line := 36 }, false, false, none⟩ else ⟨{ x with n := M (fPl x.c 1), ret := 5, line := 41 }, true, false, none⟩)
  else if x.line = 36 then ⟨brBegin x x.n 37, true, false, some (.free, x.n)⟩
  else if x.line = 80 then (if (fPl x.p 2).ok c ∧ M (fPl x.p 2) = 0 then ⟨{ x with p := 0, line := 81 }, false, false, some (fPl x.p 2, 1)⟩ else ⟨brOn x, false, (brOn x).line == 0, none⟩)
  else if x.line = 81 then ⟨brOn x, false, (brOn x).line == 0, some (.dirty, 1)⟩
  else if x.line = 10 then ⟨endL x 1, true, false, some (.reg m x.oa, if x.ob < 0 then 0 else x.ob * 2)⟩
  else if x.line = 11 then ⟨{ x with a := M (.reg m x.ob), line := 12 }, false, false, none⟩
  else if x.line = 12 then ⟨brBegin { x with ret := 1 } x.a 90, true, false, some (.reg m x.oa, x.a)⟩
  else if x.line = 13 then (if isCell (M (.reg m x.ob)) = true then ⟨{ x with a := M (.reg m x.ob), line := 14 }, false, false, none⟩ else ⟨endL { x with a := M (.reg m x.ob) } 4, true, false, none⟩)
  else if x.line = 14 then ⟨{ x with b := M (fPl x.a (halfP x.ok)), line := 15 }, true, false, none⟩
  else if x.line = 15 then ⟨brBegin { x with ret := 1 } x.b 90, false, false, some (.reg m x.oa, x.b)⟩
  else if x.line = 16 then (if isCell (M (.reg m x.oa)) = true then ⟨{ x with a := M (.reg m x.oa), line := 17 }, false, false, none⟩ else ⟨endL { x with a := M (.reg m x.oa) } 4, true, false, none⟩)
  else if x.line = 17 then ⟨{ x with b := M (.reg m x.ob), line := 18 }, false, false, none⟩
  else if x.line = 18 then ⟨brBegin { x with ret := 1 } x.b 90, true, false, some (fPl x.a (halfP x.ok), x.b)⟩
  else if x.line = 19 then ⟨{ x with b := M (.glob x.ob), line := 15 }, true, false, none⟩
  else if x.line = 20 then ⟨{ x with b := M (.reg m x.ob), line := 21 }, false, false, none⟩
  else if x.line = 21 then ⟨brBegin { x with ret := 1 } x.b 90, true, false, some (.glob x.oa, x.b)⟩
  else if x.line = 22 then ⟨{ x with a := M (.reg m x.oa), line := 23 }, false, false, none⟩
  else if x.line = 23 then ⟨endL { x with b := M (.reg m x.ob) } (if x.a = M (.reg m x.ob) then 2 else 3), true, false, none⟩
  else if x.line = 24 then ⟨endL { x with a := M (.reg m x.oa) } (if isCell (M (.reg m x.oa)) = true then 3 else 2), true, false, none⟩
  else if x.line = 30 then ⟨{ x with a := M (.reg m x.ob), line := 31 }, false, false, none⟩
  else if x.line = 31 then ⟨{ x with b := M (.reg m x.oc), line := 32 }, false, false, none⟩
  else if x.line = 38 then ⟨brBegin x x.a 39, false, false, some (fPl x.c 0, x.a)⟩
  else if x.line = 39 then ⟨brBegin x x.b 40, false, false, some (fPl x.c 1, x.b)⟩
  else if x.line = 40 then ⟨brBegin { x with ret := 1 } x.c 90, false, false, some (.reg m x.oa, x.c)⟩
  else ⟨x, false, false, none⟩

/-- A state that is another one behind one access, by which these words are made. -/
structure ByAcc (s s' : HS) (u : Option (Pl × Int)) : Prop where
  acc : s' = s.clear ∨ ∃ a, s' = s.clear.doIt a
  mem : s'.mem = wr s.c s.mem u

section
variable {s : HS} (h : s.Fit)
include h
theorem clear_fit : s.clear.Fit := ⟨h.right, h.len⟩
omit h in
theorem by_none : ByAcc s s.clear none := ⟨.inl rfl, by funext q; rfl⟩
theorem by_load (p : Pl) : ByAcc s (s.clear.doIt (aLoad (s.c.at_ p))) none := ⟨.inr ⟨_, rfl⟩, by
  have := (clear_fit h).mem_load p
  rw [show s.clear.c = s.c from rfl] at this
  rw [this]; funext q; rfl⟩
theorem by_store (p : Pl) (v : Int) : ByAcc s (s.clear.doIt (aStore (s.c.at_ p) v)) (some (p, v)) := ⟨.inr ⟨_, rfl⟩, by
  funext q; exact (clear_fit h).mem_store p v q⟩
theorem by_add (p : Pl) (v : Int) : ByAcc s (s.clear.doIt (aAdd (s.c.at_ p) v)) (some (p, addW (s.mem p) v)) := ⟨.inr ⟨_, rfl⟩, by
  funext q; exact (clear_fit h).mem_add p v q⟩
theorem by_cas (p : Pl) (x y : Int) : ByAcc s (s.clear.doIt (aCas (s.c.at_ p) x y)) (if p.ok s.c ∧ s.mem p = x then some (p, y) else none) := ⟨.inr ⟨_, rfl⟩, by
  funext q
  refine ((clear_fit h).mem_cas p x y q).trans ?_
  show (if q = p ∧ p.ok s.c ∧ s.mem p = x then y else s.mem q) = _
  by_cases hh : p.ok s.c ∧ s.mem p = x
  · rw [if_pos hh]
    show _ = if q = p ∧ p.ok s.c then y else s.mem q
    by_cases e : q = p
    · rw [if_pos ⟨e, hh⟩, if_pos ⟨e, hh.1⟩]
    · rw [if_neg (fun k => e k.1), if_neg (fun k => e k.1)]
  · rw [if_neg hh, if_neg (fun k => hh k.2)]; rfl⟩
theorem won_iff (p : Pl) (x : Int) : s.clear.won (s.c.at_ p) x = true ↔ p.ok s.c ∧ s.mem p = x := by
  unfold HS.won
  simp only [Bool.and_eq_true, decide_eq_true_eq]
  constructor
  · rintro ⟨⟨h0, h1⟩, h2⟩
    refine ⟨?_, h2⟩
    by_cases hp : p.ok s.c
    · exact hp
    · rw [at_none p hp] at h0; omega
  · rintro ⟨hp, h2⟩
    have := at_bd h.right p hp
    refine ⟨⟨this.1, ?_⟩, h2⟩
    show s.c.at_ p < (s.ws.length : Int)
    rw [h.len]; exact this.2
end

theorem HS.mem_f (s : HS) (u p : Int) (hp : 0 ≤ p ∧ p ≤ 2) : wAt s.ws (s.c.fieldP u p) = s.mem (fPl u p) := by rw [fieldP_at _ _ _ hp]; rfl

set_option maxHeartbeats 4000000 in
/-- A mutator's step does one access at most. -/
theorem lispM_abs {s : HS} (h : s.Fit) (m : Int) (x : MutV) :
    (lispM s m x).x = (lispA s.c s.mem m x).x ∧ (lispM s m x).lin = (lispA s.c s.mem m x).lin ∧ (lispM s m x).done = (lispA s.c s.mem m x).done ∧ ByAcc s (lispM s m x).s (lispA s.c s.mem m x).u := by
  have f0 := partN_bd x.ok
  have E1 : ∀ u : Int, s.c.fieldP u 2 = s.c.at_ (fPl u 2) := fun u => fieldP_at _ _ _ (by omega)
  have E2 : ∀ u : Int, s.c.fieldP u 1 = s.c.at_ (fPl u 1) := fun u => fieldP_at _ _ _ (by omega)
  have E3 : ∀ u : Int, s.c.fieldP u 0 = s.c.at_ (fPl u 0) := fun u => fieldP_at _ _ _ (by omega)
  have E4 : ∀ u : Int, s.c.fieldP u (halfP x.ok) = s.c.at_ (fPl u (halfP x.ok)) := fun u => fieldP_at _ _ _ f0
  unfold lispM lispStep
  by_cases hg : x.line = 1 ∨ x.line = 2 ∨ x.line = 3 ∨ x.line = 4 ∨ x.line = 5 ∨ x.line = 6 ∨ x.line = 90
  · obtain ⟨line, ok, oa, ob, oc, a, b, c, n, t, p, back, ret⟩ := x
    simp only at hg
    rcases hg with rfl | rfl | rfl | rfl | rfl | rfl | rfl
    · exact ⟨by trivial, by trivial, by trivial, by_add h (.inn m) 1⟩
    · refine ⟨rfl, rfl, ?_, by_load h .gate⟩
      show ((if _ then (3 : Int) else 4) == 0) = false
      split <;> rfl
    · refine ⟨rfl, rfl, ?_, by_add h (.inn m) 1⟩
      show (gFirst ok == 0) = false
      unfold gFirst
      repeat' split
      all_goals rfl
    · exact ⟨by trivial, by trivial, by trivial, by_add h (.inn m) 2⟩
    · refine ⟨rfl, rfl, ?_, by_load h .gate⟩
      show ((if _ then (6 : Int) else 5) == 0) = false
      split <;> rfl
    · refine ⟨rfl, rfl, ?_, by_add h (.inn m) 3⟩
      show (gFirst ok == 0) = false
      unfold gFirst
      repeat' split
      all_goals rfl
    · exact ⟨by trivial, by trivial, by trivial, by_add h (.inn m) 2⟩
  have hg0 : (gateM s.clear m x).is = false := by
    unfold gateM
    simp only [not_or] at hg
    simp [hg]
  rw [if_neg (by rw [hg0]; simp)]
  by_cases ht : x.line = 32 ∨ x.line = 33 ∨ x.line = 37 ∨ x.line = 41
  · obtain ⟨line, ok, oa, ob, oc, a, b, c, n, t, p, back, ret⟩ := x
    simp only at ht
    rcases ht with rfl | rfl | rfl | rfl
    · exact ⟨by trivial, by trivial, by trivial, by_add h .next 1⟩
    · unfold tkM lispA
      simp only [Int.reduceEq, if_false, if_true]
      rw [show s.clear.ws = s.ws from rfl]
      rw [show s.mem .serve = wAt s.ws 4 from rfl]
      split
      · exact ⟨by trivial, by trivial, by trivial, by_load h .serve⟩
      · exact ⟨by trivial, by trivial, by trivial, by_load h .serve⟩
    · exact ⟨by trivial, by trivial, by trivial, by_add h .serve 1⟩
    · exact ⟨by trivial, by trivial, by trivial, by_add h .serve 1⟩
  have ht0 : (tkM s.clear x).is = false := by
    unfold tkM
    simp only [not_or] at ht
    simp [ht]
  rw [if_neg (by rw [ht0]; simp)]
  by_cases hp : x.line = 34 ∨ x.line = 35 ∨ x.line = 36
  · obtain ⟨line, ok, oa, ob, oc, a, b, c, n, t, p, back, ret⟩ := x
    simp only at hp
    rcases hp with rfl | rfl | rfl
    · exact ⟨by trivial, by trivial, by trivial, by_load h .free⟩
    · unfold popM lispA
      simp only [Int.reduceEq, if_false, if_true]
      rw [show s.clear.ws = s.ws from rfl, show s.clear.c = s.c from rfl, s.mem_f c 1 (by omega), E2]
      split
      · exact ⟨by trivial, by trivial, by trivial, by_load h _⟩
      · exact ⟨by trivial, by trivial, by trivial, by_load h _⟩
    · exact ⟨by trivial, by trivial, by trivial, by_store h .free n⟩
  have hp0 : (popM s.clear x).is = false := by
    unfold popM
    simp only [not_or] at hp
    simp [hp]
  rw [if_neg (by rw [hp0]; simp)]
  by_cases hb : x.line = 80 ∨ x.line = 81
  · obtain ⟨line, ok, oa, ob, oc, a, b, c, n, t, p, back, ret⟩ := x
    simp only at hb
    rcases hb with rfl | rfl
    · have hc := by_cas h (fPl p 2) 0 1
      have hw := won_iff h (fPl p 2) 0
      unfold brM lispA
      simp only [Int.reduceEq, if_false, if_true]
      rw [show s.clear.c = s.c from rfl, E1]
      by_cases hh : (fPl p 2).ok s.c ∧ s.mem (fPl p 2) = 0
      · rw [if_pos hh] at hc
        rw [if_pos (hw.2 hh), if_pos hh]
        exact ⟨by trivial, by trivial, by trivial, hc⟩
      · rw [if_neg hh] at hc
        rw [if_neg (fun k => hh (hw.1 k)), if_neg hh]
        exact ⟨by trivial, by trivial, by trivial, hc⟩
    · exact ⟨by trivial, by trivial, by trivial, by_store h .dirty 1⟩
  have hb0 : (brM s.clear x).is = false := by
    unfold brM
    simp only [not_or] at hb
    simp [hb]
  rw [if_neg (by rw [hb0]; simp)]
  simp only [not_or] at hg ht hp hb
  unfold ownM lispA
  simp only [hg, ht, hp, hb, if_false]
  simp only [show s.clear.ws = s.ws from rfl, show s.clear.c = s.c from rfl, E3, E2, E4]
  by_cases l10 : x.line = 10
  · simp only [l10, if_true]; exact ⟨by trivial, by trivial, by trivial, by_store h (.reg m x.oa) _⟩
  by_cases l11 : x.line = 11
  · simp only [l11, if_true, Int.reduceEq, if_false]; exact ⟨by trivial, by trivial, by trivial, by_load h (.reg m x.ob)⟩
  by_cases l12 : x.line = 12
  · simp only [l12, if_true, Int.reduceEq, if_false]; exact ⟨by trivial, by trivial, by trivial, by_store h (.reg m x.oa) _⟩
  by_cases l13 : x.line = 13
  · simp only [l13, if_true, Int.reduceEq, if_false]
    rw [show wAt s.ws (s.c.regP m x.ob) = s.mem (.reg m x.ob) from rfl]
    split <;> exact ⟨by trivial, by trivial, by trivial, by_load h (.reg m x.ob)⟩
  by_cases l14 : x.line = 14
  · simp only [l14, if_true, Int.reduceEq, if_false]; exact ⟨by trivial, by trivial, by trivial, by_load h _⟩
  by_cases l15 : x.line = 15
  · simp only [l15, if_true, Int.reduceEq, if_false]; exact ⟨by trivial, by trivial, by trivial, by_store h (.reg m x.oa) _⟩
  by_cases l16 : x.line = 16
  · simp only [l16, if_true, Int.reduceEq, if_false]
    rw [show wAt s.ws (s.c.regP m x.oa) = s.mem (.reg m x.oa) from rfl]
    split <;> exact ⟨by trivial, by trivial, by trivial, by_load h (.reg m x.oa)⟩
  by_cases l17 : x.line = 17
  · simp only [l17, if_true, Int.reduceEq, if_false]; exact ⟨by trivial, by trivial, by trivial, by_load h (.reg m x.ob)⟩
  by_cases l18 : x.line = 18
  · simp only [l18, if_true, Int.reduceEq, if_false]; exact ⟨by trivial, by trivial, by trivial, by_store h _ _⟩
  by_cases l19 : x.line = 19
  · simp only [l19, if_true, Int.reduceEq, if_false]; exact ⟨by trivial, by trivial, by trivial, by_load h (.glob x.ob)⟩
  by_cases l20 : x.line = 20
  · simp only [l20, if_true, Int.reduceEq, if_false]; exact ⟨by trivial, by trivial, by trivial, by_load h (.reg m x.ob)⟩
  by_cases l21 : x.line = 21
  · simp only [l21, if_true, Int.reduceEq, if_false]; exact ⟨by trivial, by trivial, by trivial, by_store h (.glob x.oa) _⟩
  by_cases l22 : x.line = 22
  · simp only [l22, if_true, Int.reduceEq, if_false]; exact ⟨by trivial, by trivial, by trivial, by_load h (.reg m x.oa)⟩
  by_cases l23 : x.line = 23
  · simp only [l23, if_true, Int.reduceEq, if_false]; exact ⟨by trivial, by trivial, by trivial, by_load h (.reg m x.ob)⟩
  by_cases l24 : x.line = 24
  · simp only [l24, if_true, Int.reduceEq, if_false]; exact ⟨by trivial, by trivial, by trivial, by_load h (.reg m x.oa)⟩
  by_cases l30 : x.line = 30
  · simp only [l30, if_true, Int.reduceEq, if_false]; exact ⟨by trivial, by trivial, by trivial, by_load h (.reg m x.ob)⟩
  by_cases l31 : x.line = 31
  · simp only [l31, if_true, Int.reduceEq, if_false]; exact ⟨by trivial, by trivial, by trivial, by_load h (.reg m x.oc)⟩
  by_cases l38 : x.line = 38
  · simp only [l38, if_true, Int.reduceEq, if_false]; exact ⟨by trivial, by trivial, by trivial, by_store h _ _⟩
  by_cases l39 : x.line = 39
  · simp only [l39, if_true, Int.reduceEq, if_false]; exact ⟨by trivial, by trivial, by trivial, by_store h _ _⟩
  by_cases l40 : x.line = 40
  · simp only [l40, if_true, Int.reduceEq, if_false]; exact ⟨by trivial, by trivial, by trivial, by_store h (.reg m x.oa) _⟩
  simp only [l10, l11, l12, l13, l14, l15, l16, l17, l18, l19, l20, l21, l22, l23, l24, l30, l31, l38, l39, l40, if_false]
  exact ⟨by trivial, by trivial, by trivial, by_none⟩

structure CA where
  x : ColV
  what : Int
  u : Option (Pl × Int)
/-- The j-th root. -/
def rootPl (c : Cfg) (j : Int) : Pl := if j = 0 then .free else if j - 1 < c.globs then .glob (j - 1) else .reg ((j - 1 - c.globs) / c.regs) ((j - 1 - c.globs) % c.regs)

theorem rootPl_ok {c : Cfg} (hR : c.Right) (j : Int) : (rootPl c j).ok c ↔ 0 ≤ j ∧ j < c.roots := by
  obtain ⟨h1, h2, h3, h4, h5, h6, h7, h8⟩ := hR
  have hm : 0 ≤ c.muts * c.regs := Int.mul_nonneg (by omega) (by omega)
  unfold rootPl Cfg.roots
  by_cases j0 : j = 0
  · rw [if_pos j0]; simp only [Pl.ok, true_iff]; omega
  · rw [if_neg j0]
    by_cases jg : j - 1 < c.globs
    · rw [if_pos jg]; simp only [Pl.ok]; omega
    · rw [if_neg jg]
      simp only [Pl.ok]
      have a1 : 0 ≤ (j - 1 - c.globs) % c.regs := Int.emod_nonneg _ (by omega)
      have a2 : (j - 1 - c.globs) % c.regs < c.regs := Int.emod_lt_of_pos _ (by omega)
      have a3 : 0 ≤ (j - 1 - c.globs) / c.regs := Int.ediv_nonneg (by omega) (by omega)
      have a4 : (j - 1 - c.globs) / c.regs < c.muts ↔ j - 1 - c.globs < c.muts * c.regs := Int.ediv_lt_iff_lt_mul (by omega)
      constructor
      · intro h; have := a4.1 h.1.2; omega
      · intro h; exact ⟨⟨a3, a4.2 (by omega)⟩, a1, a2⟩
theorem rootP_at {c : Cfg} (hR : c.Right) (j : Int) : c.rootP j = c.at_ (rootPl c j) := by
  by_cases hok : (rootPl c j).ok c
  · have hj := (rootPl_ok hR j).1 hok
    obtain ⟨h1, h2, h3, h4, h5, h6, h7, h8⟩ := hR
    unfold Cfg.roots at hj
    unfold Cfg.rootP
    unfold rootPl at hok ⊢
    by_cases j0 : j = 0
    · rw [if_pos j0, if_pos j0]; rfl
    · rw [if_neg j0] at hok ⊢
      rw [if_neg j0]
      unfold pAt
      rw [if_pos (by omega)]
      by_cases jg : j - 1 < c.globs
      · rw [if_pos jg] at hok ⊢
        simp only [Cfg.at_, Cfg.globP, pAt]
        rw [if_pos (by omega)]
      · rw [if_neg jg] at hok ⊢
        simp only [Pl.ok] at hok
        simp only [Cfg.at_, Cfg.regP, pAt]
        rw [if_pos hok.1, if_pos hok.2]
        unfold Cfg.rA Cfg.gA
        have := Int.mul_ediv_add_emod (j - 1 - c.globs) c.regs
        rw [Int.mul_comm] at this
        omega
  · rw [at_none _ hok]
    have hj : ¬ (0 ≤ j ∧ j < c.roots) := fun hh => hok ((rootPl_ok hR j).2 hh)
    have hm : 0 ≤ c.muts * c.regs := Int.mul_nonneg (by have := hR.m0; omega) (by have := hR.r0; omega)
    have h7 := hR.g0
    unfold Cfg.roots at hj
    unfold Cfg.rootP pAt
    rw [if_neg (by omega), if_neg (by omega)]

/-- A collector's step. -/
def casU (c : Cfg) (M : Pl → Int) (p : Pl) : Option (Pl × Int) := if p.ok c ∧ M p = 0 then some (p, 1) else none
def swN (cfg : Cfg) (x : ColV) (what : Int) : ColV × Int := if x.c + 1 < cfg.cells then ({ x with c := x.c + 1, line := 20 }, what) else ({ x with c := x.c + 1, line := 1, j := 0, p := 0, cyc := x.cyc + 1 }, what + 3)
def colA (c : Cfg) (M : Pl → Int) (x : ColV) : CA :=
  if x.line = 1 then (if isCell (M (rootPl c x.j)) = true then ⟨{ x with p := M (rootPl c x.j), line := 2 }, 0, none⟩ else ⟨rsNext c x, 0, none⟩)
  else if x.line = 2 then ⟨rsNext c x, 0, casU c M (fPl x.p 2)⟩
  else if x.line = 3 then ⟨{ x with c := 0, found := false, line := 4 }, 0, some (.dirty, 0)⟩
  else if x.line = 4 then ⟨if M (.col x.c) = 1 then { x with line := 5 } else passNext c x, 0, none⟩
  else if x.line = 5 then ⟨{ x with a := M (.car x.c), line := if isCell (M (.car x.c)) = true then 6 else 7 }, 0, none⟩
  else if x.line = 6 then ⟨{ x with line := 7 }, 0, casU c M (fPl x.a 2)⟩
  else if x.line = 7 then ⟨{ x with a := M (.cdr x.c), line := if isCell (M (.cdr x.c)) = true then 8 else 9 }, 0, none⟩
  else if x.line = 8 then ⟨{ x with line := 9 }, 0, casU c M (fPl x.a 2)⟩
  else if x.line = 9 then ⟨passNext c { x with a := 0, found := true }, 0, some (.col x.c, 2)⟩
  else if x.line = 10 then (if M (.inn x.m) % 4 = 0 ∨ M (.inn x.m) % 4 = 2 then ⟨barPass c { x with a := 0 } 10 11, 0, none⟩ else ⟨{ x with a := M (.inn x.m), line := 16 }, 0, none⟩)
  else if x.line = 16 then (if M (.inn x.m) = x.a then ⟨x, 0, none⟩ else if M (.inn x.m) % 4 = 3 then ⟨{ x with a := M (.inn x.m) }, 0, none⟩ else ⟨barPass c { x with a := 0 } 10 11, 0, none⟩)
  else if x.line = 11 then ⟨{ x with line := 12 }, 0, some (.gate, 1)⟩
  else if x.line = 12 then (if M (.inn x.m) % 4 = 0 ∨ M (.inn x.m) % 4 = 3 then ⟨barPass c x 12 13, 0, none⟩ else ⟨x, 0, none⟩)
  else if x.line = 13 then (if M .dirty = 0 then ⟨{ x with line := 14 }, 1, none⟩ else ⟨{ x with line := 15 }, 0, none⟩)
  else if x.line = 14 then ⟨{ x with c := 0, line := 20 }, 0, some (.gate, 0)⟩
  else if x.line = 15 then ⟨{ x with line := 3 }, 0, some (.gate, 0)⟩
  else if x.line = 20 then (if M (.col x.c) = 0 then ⟨{ x with line := 21 }, 0, none⟩ else if M (.col x.c) = 2 then ⟨{ x with line := 24 }, 0, none⟩ else ⟨(swN c x 0).1, (swN c x 0).2, none⟩)
  else if x.line = 21 then ⟨{ x with line := 22 }, 0, some (.car x.c, 0)⟩
  else if x.line = 22 then ⟨{ x with line := 23 }, 0, some (.cdr x.c, 0)⟩
  else if x.line = 23 then ⟨(swN c { x with tail := x.c } 2).1, (swN c { x with tail := x.c } 2).2, some (.cdr x.tail, cellW x.c)⟩
  else if x.line = 24 then ⟨(swN c x 0).1, (swN c x 0).2, some (.col x.c, 0)⟩
  else ⟨x, 0, none⟩

theorem swNext_abs (c : Cfg) (x : ColV) (what : Int) (s : HS) : (swNext c x what s).x = (swN c x what).1 ∧ (swNext c x what s).what = (swN c x what).2 ∧ (swNext c x what s).is = true ∧ (swNext c x what s).s = s := by
  unfold swNext swN
  split <;> exact ⟨rfl, rfl, rfl, rfl⟩
set_option maxHeartbeats 4000000 in
theorem colM_abs {s : HS} (h : s.Fit) (x : ColV) :
    (colM s x).x = (colA s.c s.mem x).x ∧ (colM s x).what = (colA s.c s.mem x).what ∧ ByAcc s (colM s x).s (colA s.c s.mem x).u := by
  have E1 : ∀ u : Int, s.c.fieldP u 2 = s.c.at_ (fPl u 2) := fun u => fieldP_at _ _ _ (by omega)
  have ER : ∀ j : Int, s.c.rootP j = s.c.at_ (rootPl s.c j) := fun j => rootP_at h.right j
  have EW : ∀ p : Pl, wAt s.ws (s.c.at_ p) = s.mem p := fun p => rfl
  unfold colM colStep
  by_cases h1 : x.line = 1 ∨ x.line = 2
  · obtain ⟨line, j, c, m, a, p, found, tail, cyc⟩ := x
    simp only at h1
    rcases h1 with rfl | rfl
    · unfold rsM colA
      simp only [if_true, show s.clear.ws = s.ws from rfl, show s.clear.c = s.c from rfl, ER, EW]
      split <;> (simp only [if_true]; exact ⟨by trivial, by trivial, by_load h _⟩)
    · unfold rsM colA
      simp only [if_true, show s.clear.ws = s.ws from rfl, show s.clear.c = s.c from rfl, E1, Int.reduceEq, if_false]
      exact ⟨by trivial, by trivial, by_cas h _ 0 1⟩
  have i1 : (rsM s.clear x).is = false := by
    unfold rsM
    simp only [not_or] at h1
    simp [h1]
  rw [if_neg (by rw [i1]; simp)]
  by_cases h2 : x.line = 3 ∨ x.line = 4 ∨ x.line = 5 ∨ x.line = 6 ∨ x.line = 7 ∨ x.line = 8 ∨ x.line = 9
  · obtain ⟨line, j, c, m, a, p, found, tail, cyc⟩ := x
    simp only at h2
    rcases h2 with rfl | rfl | rfl | rfl | rfl | rfl | rfl <;>
      (unfold passM colA; simp only [if_true, show s.clear.ws = s.ws from rfl, show s.clear.c = s.c from rfl, E1, Int.reduceEq, if_false])
    · exact ⟨by trivial, by trivial, by_store h .dirty 0⟩
    · exact ⟨by trivial, by trivial, by_load h (.col c)⟩
    · exact ⟨by trivial, by trivial, by_load h (.car c)⟩
    · exact ⟨by trivial, by trivial, by_cas h _ 0 1⟩
    · exact ⟨by trivial, by trivial, by_load h (.cdr c)⟩
    · exact ⟨by trivial, by trivial, by_cas h _ 0 1⟩
    · exact ⟨by trivial, by trivial, by_store h (.col c) 2⟩
  have i2 : (passM s.clear x).is = false := by
    unfold passM
    simp only [not_or] at h2
    simp [h2]
  rw [if_neg (by rw [i2]; simp)]
  by_cases h3 : x.line = 10 ∨ x.line = 16 ∨ x.line = 11 ∨ x.line = 12 ∨ x.line = 13 ∨ x.line = 14 ∨ x.line = 15
  · obtain ⟨line, j, c, m, a, p, found, tail, cyc⟩ := x
    simp only at h3
    rcases h3 with rfl | rfl | rfl | rfl | rfl | rfl | rfl <;>
      (unfold barM colA; simp only [if_true, show s.clear.ws = s.ws from rfl, show s.clear.c = s.c from rfl, Int.reduceEq, if_false])
    · rw [show wAt s.ws (s.c.inP m) = s.mem (.inn m) from rfl]
      split <;> exact ⟨by trivial, by trivial, by_load h (.inn m)⟩
    · rw [show wAt s.ws (s.c.inP m) = s.mem (.inn m) from rfl]
      split
      · exact ⟨by trivial, by trivial, by_load h (.inn m)⟩
      · split <;> exact ⟨by trivial, by trivial, by_load h (.inn m)⟩
    · exact ⟨by trivial, by trivial, by_store h .gate 1⟩
    · rw [show wAt s.ws (s.c.inP m) = s.mem (.inn m) from rfl]
      split <;> exact ⟨by trivial, by trivial, by_load h (.inn m)⟩
    · rw [show wAt s.ws 2 = s.mem .dirty from rfl]
      split <;> exact ⟨by trivial, by trivial, by_load h .dirty⟩
    · exact ⟨by trivial, by trivial, by_store h .gate 0⟩
    · exact ⟨by trivial, by trivial, by_store h .gate 0⟩
  have i3 : (barM s.clear x).is = false := by
    unfold barM
    simp only [not_or] at h3
    simp [h3]
  rw [if_neg (by rw [i3]; simp)]
  by_cases h4 : x.line = 20 ∨ x.line = 21 ∨ x.line = 22 ∨ x.line = 23 ∨ x.line = 24
  · obtain ⟨line, j, c, m, a, p, found, tail, cyc⟩ := x
    simp only at h4
    have e0 := fun (x : ColV) (w : Int) (s' : HS) => swNext_abs s.c x w s'
    rcases h4 with rfl | rfl | rfl | rfl | rfl <;>
      (unfold swM colA; simp only [if_true, show s.clear.ws = s.ws from rfl, show s.clear.c = s.c from rfl, Int.reduceEq, if_false])
    · rw [show wAt s.ws (s.c.cellP 2 c) = s.mem (.col c) from rfl]
      by_cases c0 : s.mem (.col c) = 0
      · simp only [c0, if_true]; exact ⟨by trivial, by trivial, by_load h (.col c)⟩
      · by_cases c2 : s.mem (.col c) = 2
        · simp only [c2, if_true, Int.reduceEq, if_false]; exact ⟨by trivial, by trivial, by_load h (.col c)⟩
        · simp only [c0, c2, if_false]
          obtain ⟨q1, q2, q3, q4⟩ := e0 ⟨20, j, c, m, a, p, found, tail, cyc⟩ 0 (s.clear.doIt (aLoad (s.c.cellP 2 c)))
          rw [if_pos q3, q4]
          exact ⟨q1, q2, by_load h (.col c)⟩
    · exact ⟨by trivial, by trivial, by_store h (.car c) 0⟩
    · exact ⟨by trivial, by trivial, by_store h (.cdr c) 0⟩
    · obtain ⟨q1, q2, q3, q4⟩ := e0 { (⟨23, j, c, m, a, p, found, tail, cyc⟩ : ColV) with tail := c } 2 (s.clear.doIt (aStore (s.c.cellP 1 tail) (cellW c)))
      rw [if_pos q3, q4]
      exact ⟨q1, q2, by_store h (.cdr tail) _⟩
    · obtain ⟨q1, q2, q3, q4⟩ := e0 ⟨24, j, c, m, a, p, found, tail, cyc⟩ 0 (s.clear.doIt (aStore (s.c.cellP 2 c) 0))
      rw [if_pos q3, q4]
      exact ⟨q1, q2, by_store h (.col c) 0⟩
  have i4 : (swM s.clear x).is = false := by
    unfold swM
    simp only [not_or] at h4
    simp [h4]
  rw [if_neg (by rw [i4]; simp)]
  simp only [not_or] at h1 h2 h3 h4
  unfold colA
  simp only [h1, h2, h3, h4, if_false]
  exact ⟨by trivial, by trivial, by_none⟩

end Go.Proofs.Ytfmjnooicjfbbaa
