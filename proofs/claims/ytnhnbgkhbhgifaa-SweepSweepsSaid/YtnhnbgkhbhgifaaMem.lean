/- The words of a memory by what they are: places, and what an access does to them. -/
import Derived.Test.YtnhnbgkhbhgifaaPlain
namespace Go.Proofs.Ytnhnbgkhbhgifaa
open Go.RowKit
set_option linter.unusedVariables false
set_option linter.unusedSimpArgs false

/-- What a word is. -/
inductive Pl where
  | free
  | gate
  | dirty
  | next
  | serve
  | inn (m : Int)
  | glob (g : Int)
  | reg (m r : Int)
  | car (i : Int)
  | cdr (i : Int)
  | col (i : Int)
  deriving DecidableEq

def Pl.ok (c : Cfg) : Pl → Prop
  | .inn m => 0 ≤ m ∧ m < c.muts
  | .glob g => 0 ≤ g ∧ g < c.globs
  | .reg m r => (0 ≤ m ∧ m < c.muts) ∧ 0 ≤ r ∧ r < c.regs
  | .car i => 0 ≤ i ∧ i < c.cells
  | .cdr i => 0 ≤ i ∧ i < c.cells
  | .col i => 0 ≤ i ∧ i < c.cells
  | _ => True
instance (c : Cfg) (p : Pl) : Decidable (p.ok c) := by unfold Pl.ok; cases p <;> simp only <;> infer_instance

/-- Its place; -1: there is none. -/
def Cfg.at_ (c : Cfg) : Pl → Int
  | .free => 0
  | .gate => 1
  | .dirty => 2
  | .next => 3
  | .serve => 4
  | .inn m => c.inP m
  | .glob g => c.globP g
  | .reg m r => c.regP m r
  | .car i => c.cellP 0 i
  | .cdr i => c.cellP 1 i
  | .col i => c.cellP 2 i

theorem mul_le_of {a b n : Int} (h : a < b) (h0 : 0 ≤ n) : a * n + n ≤ b * n := by
  have : (a + 1) * n ≤ b * n := Int.mul_le_mul_of_nonneg_right (by omega) h0
  rw [Int.add_mul] at this
  omega

theorem at_bd {c : Cfg} (hR : c.Right) (p : Pl) (h : p.ok c) : 0 ≤ c.at_ p ∧ c.at_ p < c.words := by
  obtain ⟨h1, h2, h3, h4, h5, h6, h7, h8⟩ := hR
  have hm : 0 ≤ c.muts * c.regs := Int.mul_nonneg (by omega) (by omega)
  cases p <;> simp only [Pl.ok, Cfg.at_, Cfg.inP, Cfg.globP, Cfg.regP, Cfg.cellP, pAt, Cfg.gA, Cfg.rA, Cfg.cA, Cfg.words, Cfg.roots] at h ⊢
  case reg m r =>
    have := mul_le_of (a := m) (b := c.muts) (n := c.regs) h.1.2 (by omega)
    have h0 : 0 ≤ m * c.regs := Int.mul_nonneg h.1.1 (by omega)
    rw [if_pos h.1, if_pos h.2]
    omega
  all_goals (try rw [if_pos h]); omega

theorem at_none {c : Cfg} (p : Pl) (h : ¬ p.ok c) : c.at_ p = -1 := by
  cases p <;> simp only [Pl.ok, not_true] at h <;> simp only [Cfg.at_, Cfg.inP, Cfg.globP, Cfg.regP, Cfg.cellP, pAt]
  case reg m r =>
    split
    · rw [if_neg (fun hh => h ⟨by assumption, hh⟩)]
    · rfl
  all_goals rw [if_neg h]

theorem reg_inj {n m r m' r' : Int} (h0 : 0 ≤ r) (h1 : r < n) (h2 : 0 ≤ r') (h3 : r' < n) (h : m * n + r = m' * n + r') : m = m' ∧ r = r' := by
  have hm : m = m' := by
    rcases Int.lt_trichotomy m m' with hlt | he | hgt
    · have := mul_le_of hlt (n := n) (by omega); omega
    · exact he
    · have := mul_le_of hgt (n := n) (by omega); omega
  subst hm
  exact ⟨rfl, by omega⟩

theorem at_inj {c : Cfg} (hR : c.Right) (p q : Pl) (hp : p.ok c) (hq : q.ok c) (h : c.at_ p = c.at_ q) : p = q := by
  obtain ⟨h1, h2, h3, h4, h5, h6, h7, h8⟩ := hR
  have hm : 0 ≤ c.muts * c.regs := Int.mul_nonneg (by omega) (by omega)
  have hb : ∀ m r, (0 ≤ m ∧ m < c.muts) → (0 ≤ r ∧ r < c.regs) → 0 ≤ m * c.regs ∧ m * c.regs + r < c.muts * c.regs := by
    intro m r hm hr
    have := mul_le_of (a := m) (b := c.muts) (n := c.regs) hm.2 (by omega)
    have h0 : 0 ≤ m * c.regs := Int.mul_nonneg hm.1 (by omega)
    omega
  cases p <;> cases q <;> simp only [Pl.ok] at hp hq <;> simp only [Cfg.at_, Cfg.inP, Cfg.globP, Cfg.regP, Cfg.cellP, pAt, Cfg.gA, Cfg.rA, Cfg.cA, hp, hq, and_self, if_true] at h
  case reg.reg m r m' r' =>
    have := reg_inj hp.2.1 hp.2.2 hq.2.1 hq.2.2 (m := m) (m' := m') (by omega)
    rw [this.1, this.2]
  all_goals first
    | rfl
    | (exfalso; omega)
    | (congr 1; omega)
    | (exfalso; have := hb _ _ hp.1 hp.2; omega)
    | (exfalso; have := hb _ _ hq.1 hq.2; omega)

/-- The words of a hand by what they are. -/
def HS.mem (s : HS) (p : Pl) : Int := wAt s.ws (s.c.at_ p)

structure HS.Fit (s : HS) : Prop where
  right : s.c.Right
  len : (s.ws.length : Int) = s.c.words

theorem HS.doIt_c (s : HS) (a : Acc) : (s.doIt a).c = s.c := rfl
theorem Acc.ws_len (a : Acc) (ws : List Int) : (a.ws ws).length = ws.length := by unfold Acc.ws; split <;> simp
theorem HS.Fit.doIt {s : HS} (h : s.Fit) (a : Acc) : (s.doIt a).Fit := ⟨h.right, by show ((a.ws s.ws).length : Int) = s.c.words; rw [Acc.ws_len]; exact h.len⟩

theorem wAt_set {ws : List Int} {i j x : Int} (hi : 0 ≤ i ∧ i < ws.length) : wAt (ws.set i.toNat x) j = if j = i then x else wAt ws j := by
  unfold wAt
  by_cases hj : 0 ≤ j ∧ j < ws.length
  · simp only [List.length_set, hj, and_self, if_true]
    by_cases e : j = i
    · subst e
      simp [List.getD_eq_getElem?_getD, List.getElem?_set_self (show j.toNat < ws.length by omega)]
    · rw [if_neg e]
      simp only [List.getD_eq_getElem?_getD]
      rw [List.getElem?_set_ne (by omega)]
  · simp only [List.length_set, hj, if_false]
    rw [if_neg (by rintro rfl; exact hj hi)]

/-- What an access to a place does to the words. -/
theorem HS.Fit.mem_doIt {s : HS} (h : s.Fit) (k : Int) (p : Pl) (x y o : Int) (hk : 1 ≤ k ∧ k ≤ 4) (q : Pl) :
    (s.doIt ⟨k, s.c.at_ p, x, y, o⟩).mem q = if q = p ∧ p.ok s.c then (⟨k, s.c.at_ p, x, y, o⟩ : Acc).new (s.mem p) else s.mem q := by
  unfold HS.mem HS.doIt
  simp only
  by_cases hp : p.ok s.c
  · have hb := at_bd h.right p hp
    have hl : 0 ≤ s.c.at_ p ∧ s.c.at_ p < (s.ws.length : Int) := ⟨hb.1, by rw [h.len]; exact hb.2⟩
    have ho : (⟨k, s.c.at_ p, x, y, o⟩ : Acc).ok s.ws = true := by simp [Acc.ok, hk, hl]
    unfold Acc.ws
    rw [if_pos ho, wAt_set hl]
    by_cases hq : q.ok s.c
    · by_cases e : q = p
      · subst e; simp [hp]
      · rw [if_neg (fun he => e (at_inj h.right _ _ hq hp he)), if_neg (fun hh => e hh.1)]
    · rw [if_neg (by rw [at_none q hq]; omega), if_neg (by rintro ⟨rfl, _⟩; exact hq hp)]
  · rw [if_neg (fun hh => hp hh.2)]
    have ho : (⟨k, s.c.at_ p, x, y, o⟩ : Acc).ok s.ws = false := by simp [Acc.ok, at_none p hp]
    unfold Acc.ws
    rw [ho]
    rfl

theorem HS.Fit.mem_load {s : HS} (h : s.Fit) (p : Pl) : (s.doIt (aLoad (s.c.at_ p))).mem = s.mem := by
  funext q
  rw [show aLoad (s.c.at_ p) = ⟨1, s.c.at_ p, 0, 0, 0⟩ from rfl, h.mem_doIt 1 p 0 0 0 (by omega) q]
  split
  · rename_i hh; simp [Acc.new, hh.1]
  · rfl
theorem HS.Fit.mem_store {s : HS} (h : s.Fit) (p : Pl) (x : Int) (q : Pl) : (s.doIt (aStore (s.c.at_ p) x)).mem q = if q = p ∧ p.ok s.c then x else s.mem q := by
  rw [show aStore (s.c.at_ p) x = ⟨2, s.c.at_ p, x, 0, 0⟩ from rfl, h.mem_doIt 2 p x 0 0 (by omega) q]
  simp [Acc.new]
theorem HS.Fit.mem_cas {s : HS} (h : s.Fit) (p : Pl) (x y : Int) (q : Pl) : (s.doIt (aCas (s.c.at_ p) x y)).mem q = if q = p ∧ p.ok s.c ∧ s.mem p = x then y else s.mem q := by
  rw [show aCas (s.c.at_ p) x y = ⟨3, s.c.at_ p, x, y, 0⟩ from rfl, h.mem_doIt 3 p x y 0 (by omega) q]
  simp only [Acc.new]
  by_cases h1 : q = p
  · subst h1
    by_cases h2 : q.ok s.c
    · by_cases h3 : s.mem q = x <;> simp [h2, h3]
    · simp [h2]
  · simp [h1]
theorem HS.Fit.mem_add {s : HS} (h : s.Fit) (p : Pl) (x : Int) (q : Pl) : (s.doIt (aAdd (s.c.at_ p) x)).mem q = if q = p ∧ p.ok s.c then addW (s.mem p) x else s.mem q := by
  rw [show aAdd (s.c.at_ p) x = ⟨4, s.c.at_ p, x, 0, 0⟩ from rfl, h.mem_doIt 4 p x 0 0 (by omega) q]
  simp [Acc.new]
theorem HS.Fit.mem_bad {s : HS} (p : Pl) (h : ¬ p.ok s.c) : s.mem p = 0 := by
  unfold HS.mem wAt
  rw [at_none p h, if_neg (by omega)]

end Go.Proofs.Ytnhnbgkhbhgifaa
