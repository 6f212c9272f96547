/- mudlarklaw10.BarrierShades: what shading does, as plain facts; the colour's place. -/
import Derived.Test.YtinafadacgloaaaBarLaw
import Derived.Test.YtinafadacgloaaaLaw10
import Derived.Test.YtinafadacgloaaaRefAt
namespace Go.Proofs.Ytinafadacgloaaa
open Go.RowKit
set_option linter.unusedVariables false
set_option linter.unusedSimpArgs false

theorem rAt_none {c : Cfg} (hR : c.Right) (w : World) : Calls Try.prog 33 #[c.val, .agg #[.int .i64 6, .int .i64 (-1), .int .i64 0]] w fun e w' => e = .returned (.int .i64 (-1)) ∧ Fr [] w w' := by
  have HRt := hid (fun W => rRight_any c W true hR.right)
  clear hR
  obtain ⟨cc, cm, cr, cg⟩ := c
  go_enter Try.func33, Try.ntmps33
  have hB := (Blk.new w [.int .i64 cc, .int .i64 cm, .int .i64 cr, .int .i64 cg] 23).alloc (.cells #[.int .i64 6, .int .i64 (-1), .int .i64 0] 67)
  have hS := Blk.new (w.alloc (.cells #[.int .i64 cc, .int .i64 cm, .int .i64 cr, .int .i64 cg] 23)) [.int .i64 6, .int .i64 (-1), .int .i64 0] 67
  rw [World.size_alloc] at hS
  have hFF := ((Fr.refl [] w).alloc (.cells #[.int .i64 cc, .int .i64 cm, .int .i64 cr, .int .i64 cg] 23)).alloc (.cells #[.int .i64 6, .int .i64 (-1), .int .i64 0] 67)
  have kB := hB.cell
  have kS := hS.cell
  go_wp2_with (first | (go_at_call 63; with_reducible refine (HRt.out _).mono ?_; rintro e w2 ⟨rfl, hF2⟩; (have hB := hB.kept hF2 (by simp)); (have hS := hS.kept hF2 (by simp)); (have kB := hB.cell); (have kS := hS.cell); (have hFF := hFF.trans hF2)))
  go_ret
  exact ⟨rfl, hFF⟩
theorem rAt_colour {c : Cfg} (hR : c.Right) (u : Int) (h0 : 0 ≤ u) (w : World) : Calls Try.prog 33 #[c.val, .agg #[.int .i64 6, .int .i64 (cellN u), .int .i64 0]] w fun e w' => e = .returned (.int .i64 (c.fieldP u 2)) ∧ Fr [] w w' := by
  by_cases hc : isCell u = true
  · have hx := (isCell_iff u).1 hc
    rw [cellN_yes hc, show c.fieldP u 2 = c.cellP 2 (u / 2) by simp [Cfg.fieldP, hc]]
    exact rAtCell_any hR 2 (u / 2) (by omega) (by omega) w
  · have hc : isCell u = false := by simpa using hc
    rw [cellN_no hc, show c.fieldP u 2 = -1 by simp [Cfg.fieldP, hc]]
    exact rAt_none hR w

theorem DAt.drewN {w : World} {rd : Nat} {ws : List Int} {ext : List Value} (h : DAt w rd ws ext) (n : Nat) : DAt (w.drewN n) rd ws ext := ⟨h.dat, h.len, h.wf⟩
theorem fieldP_lt {c : Cfg} (hR : c.Right) (u p : Int) : c.fieldP u p < c.words := by
  have hw := hR.words_pos
  unfold Cfg.fieldP
  split
  · rename_i h
    unfold Cfg.cellP pAt
    split
    · rw [words_cA]; omega
    · omega
  · omega

/-- What shading has done to the words. -/
structure Shaded (l m : List Int) (f : Int) : Prop where
  len : m.length = l.length
  at_ : 0 ≤ f → f < l.length → l.getD f.toNat 0 = 0 → m.getD f.toNat 0 = 1 ∧ m.getD 2 0 = 1
  other : ∀ k : Nat, k < l.length → ¬ ((k : Int) = f ∧ l.getD k 0 = 0) → ¬ (k = 2 ∧ 0 ≤ f ∧ l.getD f.toNat 0 = 0) → m.getD k 0 = l.getD k 0

theorem shaded_same (l : List Int) (f : Int) (h : ¬ (0 ≤ f ∧ f < l.length ∧ l.getD f.toNat 0 = 0)) : Shaded l l f :=
  ⟨rfl, fun a b d => absurd ⟨a, b, d⟩ h, fun _ _ _ _ => rfl⟩
theorem shaded_won (l : List Int) (f : Int) (h5 : 5 ≤ l.length) (h0 : 0 ≤ f) (h1 : f < l.length) (hz : l.getD f.toNat 0 = 0) : Shaded l ((l.set f.toNat 1).set 2 1) f := by
  have hf : f.toNat < l.length := by omega
  refine ⟨by simp, fun _ _ _ => ?_, fun k hk n1 n2 => ?_⟩
  · simp only [List.getD_eq_getElem?_getD, List.getElem?_set, List.length_set]
    constructor
    · by_cases e : 2 = f.toNat
      · simp [e, hf]
      · simp [e, hf]
    · have : 2 < l.length := by omega
      simp [this]
  · have a : ¬ 2 = k := fun e => n2 ⟨e.symm, h0, hz⟩
    have b : ¬ f.toNat = k := by
      intro e
      apply n1
      constructor
      · omega
      · rw [← e]; exact hz
    simp only [List.getD_eq_getElem?_getD, List.getElem?_set, if_neg a, if_neg b]
theorem shade_ws (s : HS) (f : Int) (h5 : 5 ≤ s.ws.length) : s.won f 0 = true → Shaded s.ws (((s.doIt (aCas f 0 1)).doIt (aStore 2 1)).ws) f := by
  intro hw
  obtain ⟨a, b, d⟩ := (s.won_iff f).1 hw
  have hz : s.ws.getD f.toNat 0 = 0 := by simpa [wAt, a, b] using d
  rcases doIt_cas s f 0 1 with e | ⟨_, _, _, e⟩ | ⟨_, _, n, _⟩
  · have e2 := s.doIt_in (a := aCas f 0 1) (by simp [aCas]) (by simp [aCas]) a b
    rw [e] at e2
    exact absurd (congrArg HS.acc e2) (by simp [aCas, Acc.z])
  · rw [e]
    rcases doIt_store ⟨s.c, s.ws.set f.toNat 1, ⟨3, f, 0, 1, 0⟩⟩ 2 1 with g | ⟨_, _, g⟩
    · have e2 := (⟨s.c, s.ws.set f.toNat 1, ⟨3, f, 0, 1, 0⟩⟩ : HS).doIt_in (a := aStore 2 1) (by simp [aStore]) (by simp [aStore]) (by simp [aStore]) (by simp [aStore]; omega)
      rw [g] at e2
      exact absurd (congrArg HS.acc e2) (by simp [aStore, Acc.z])
    · rw [g]
      exact shaded_won s.ws f h5 a b hz
  · exact absurd d n
theorem shade_no (s : HS) (f : Int) (hw : s.won f 0 = false) : Shaded s.ws (s.doIt (aCas f 0 1)).ws f := by
  rw [s.no_win_ws f hw]
  refine shaded_same _ _ (fun h => ?_)
  have : s.won f 0 = true := (s.won_iff f).2 ⟨h.1, h.2.1, by unfold wAt; rw [if_pos ⟨h.1, h.2.1⟩]; exact h.2.2⟩
  rw [hw] at this
  cases this

end Go.Proofs.Ytinafadacgloaaa
