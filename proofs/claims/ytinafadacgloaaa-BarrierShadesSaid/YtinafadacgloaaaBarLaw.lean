/- Shading, as plain facts: a cell that was shaded is not white. -/
import Derived.Test.YtinafadacgloaaaBarAny
import Derived.Test.YtinafadacgloaaaHandMore
namespace Go.Proofs.Ytinafadacgloaaa
open Go.RowKit
set_option linter.unusedVariables false
set_option linter.unusedSimpArgs false

theorem HS.won_set (s : HS) (c : Cfg) (acc : Acc) (i f : Int) (x : Int) (hx : ¬ x = 0) (h : s.won f 0 = false ∨ i = f) : (⟨c, s.ws.set i.toNat x, acc⟩ : HS).won f 0 = false ∨ i < 0 ∨ (s.ws.length : Int) ≤ i := by
  by_cases hi : 0 ≤ i ∧ i < s.ws.length
  · left
    unfold HS.won at h ⊢
    simp only [List.length_set]
    by_cases hf : 0 ≤ f ∧ f < s.ws.length
    · have e : wAt (s.ws.set i.toNat x) f = if i = f then x else wAt s.ws f := by
        unfold wAt
        simp only [List.length_set, hf, and_self, if_true, List.getD_eq_getElem?_getD, List.getElem?_set]
        by_cases hif : i = f
        · subst hif
          have : i.toNat < s.ws.length := by omega
          simp [this]
        · have : ¬ i.toNat = f.toNat := by omega
          simp [this, hif]
      rw [e]
      by_cases hif : i = f
      · simp [hif, hx]
      · rcases h with h | h
        · simp only [hif, if_false]; exact h
        · exact absurd h hif
    · have : (decide (0 ≤ f) && decide (f < (s.ws.length : Int))) = false := by
        rw [← Bool.not_eq_true, Bool.and_eq_true, decide_eq_true_eq, decide_eq_true_eq]; exact hf
      rw [this, Bool.false_and]
  · right
    omega

theorem HS.won_iff (s : HS) (f : Int) : s.won f 0 = true ↔ 0 ≤ f ∧ f < s.ws.length ∧ wAt s.ws f = 0 := by
  simp [HS.won, and_assoc]

/-- A cell that was shaded isn't white. -/
theorem HS.no_win (s : HS) (f : Int) : (s.doIt (aCas f 0 1)).won f 0 = false := by
  rcases doIt_cas s f 0 1 with h | ⟨h0, h1, hz, h⟩ | ⟨h0, h1, hz, h⟩
  · rw [h]
    by_cases hw : s.won f 0 = true
    · obtain ⟨a, b, d⟩ := (s.won_iff f).1 hw
      have e := s.doIt_in (a := aCas f 0 1) (by simp [aCas]) (by simp [aCas]) a b
      rw [h] at e
      exact absurd (congrArg HS.acc e) (by simp [aCas, Acc.z])
    · exact by simpa [HS.won] using hw
  · rw [h]
    rcases s.won_set s.c ⟨3, f, 0, 1, 0⟩ f f 1 (by decide) (.inr rfl) with g | g | g
    · exact g
    · omega
    · omega
  · rw [h]
    have : ¬ s.won f 0 = true := fun e => hz ((s.won_iff f).1 e).2.2
    simpa [HS.won] using this
/-- To set dirty makes no cell white. -/
theorem HS.no_win_store (s : HS) (f : Int) (h : s.won f 0 = false) : (s.doIt (aStore 2 1)).won f 0 = false := by
  rcases doIt_store s 2 1 with e | ⟨h0, h1, e⟩
  · rw [e]; exact h
  · rw [e]
    rcases s.won_set s.c ⟨2, 2, 1, 0, wAt s.ws 2⟩ 2 f 1 (by decide) (.inl h) with g | g | g
    · exact g
    · omega
    · omega
theorem HS.no_win_ws (s : HS) (f : Int) (h : s.won f 0 = false) : (s.doIt (aCas f 0 1)).ws = s.ws := by
  rcases doIt_cas s f 0 1 with e | ⟨h0, h1, hz, e⟩ | ⟨h0, h1, hz, e⟩
  · rw [e]
  · exact absurd ((s.won_iff f).2 ⟨h0, h1, hz⟩) (by simp [h])
  · rw [e]

theorem Blk.set13 {w : World} {b : Nat} {t : TypeId} {u0 u1 u2 u3 u4 u5 u6 u7 u8 u9 u10 u11 u12 : Value} (h : Blk w b t [u0, u1, u2, u3, u4, u5, u6, u7, u8, u9, u10, u11, u12]) (v0 v1 v2 v3 v4 v5 v6 v7 v8 v9 v10 v11 v12 : Value) :
    Blk (((((((((((((w.setCell ⟨b, 0, none⟩ v0).setCell ⟨b, 1, none⟩ v1).setCell ⟨b, 2, none⟩ v2).setCell ⟨b, 3, none⟩ v3).setCell ⟨b, 4, none⟩ v4).setCell ⟨b, 5, none⟩ v5).setCell ⟨b, 6, none⟩ v6).setCell ⟨b, 7, none⟩ v7).setCell ⟨b, 8, none⟩ v8).setCell ⟨b, 9, none⟩ v9).setCell ⟨b, 10, none⟩ v10).setCell ⟨b, 11, none⟩ v11).setCell ⟨b, 12, none⟩ v12) b t [v0, v1, v2, v3, v4, v5, v6, v7, v8, v9, v10, v11, v12] := by
  have z := ((((((((((((h.set 0 v0).set 1 v1).set 2 v2).set 3 v3).set 4 v4).set 5 v5).set 6 v6).set 7 v7).set 8 v8).set 9 v9).set 10 v10).set 11 v11).set 12 v12
  simp only [List.set_cons_zero, List.set_cons_succ] at z
  exact z

section
variable {W : World} {h ab db : Nat} {s : HS}
theorem sh80y (H : HAt W h ab db s) (u L : Int) (h0 : 0 ≤ u) (h1 : u < 18446744073709551616) (hw : s.won (s.c.fieldP u 2) 0 = true) : Calls Try.prog 29 #[.pointer (some ⟨h, 0, none⟩), .agg #[.int .i64 80, .int .i64 0, .int .i64 0, .int .i64 0, .int .i64 0, .int .u64 0, .int .u64 0, .int .u64 0, .int .u64 0, .int .u64 0, .int .u64 u, .int .i64 L, .int .i64 0]] W fun e w' => e = .returned (.tuple #[.agg #[.int .i64 81, .int .i64 0, .int .i64 0, .int .i64 0, .int .i64 0, .int .u64 0, .int .u64 0, .int .u64 0, .int .u64 0, .int .u64 0, .int .u64 0, .int .i64 L, .int .i64 0], .bool true]) ∧ HAt w' h ab db (s.doIt (aCas (s.c.fieldP u 2) 0 1)) ∧ Fr [h, db] W w' :=
  br80y H 0 0 0 0 0 0 0 0 0 u L 0 h0 h1 hw
theorem sh80n (H : HAt W h ab db s) (u L : Int) (h0 : 0 ≤ u) (h1 : u < 18446744073709551616) (hw : s.won (s.c.fieldP u 2) 0 = false) : Calls Try.prog 29 #[.pointer (some ⟨h, 0, none⟩), .agg #[.int .i64 80, .int .i64 0, .int .i64 0, .int .i64 0, .int .i64 0, .int .u64 0, .int .u64 0, .int .u64 0, .int .u64 0, .int .u64 0, .int .u64 u, .int .i64 L, .int .i64 0]] W fun e w' => e = .returned (.tuple #[.agg #[.int .i64 L, .int .i64 0, .int .i64 0, .int .i64 0, .int .i64 0, .int .u64 0, .int .u64 0, .int .u64 0, .int .u64 0, .int .u64 0, .int .u64 0, .int .i64 0, .int .i64 0], .bool true]) ∧ HAt w' h ab db (s.doIt (aCas (s.c.fieldP u 2) 0 1)) ∧ Fr [h, db] W w' :=
  br80n H 0 0 0 0 0 0 0 0 0 u L 0 h0 h1 hw
theorem sh81 (H : HAt W h ab db s) (L : Int) : Calls Try.prog 29 #[.pointer (some ⟨h, 0, none⟩), .agg #[.int .i64 81, .int .i64 0, .int .i64 0, .int .i64 0, .int .i64 0, .int .u64 0, .int .u64 0, .int .u64 0, .int .u64 0, .int .u64 0, .int .u64 0, .int .i64 L, .int .i64 0]] W fun e w' => e = .returned (.tuple #[.agg #[.int .i64 L, .int .i64 0, .int .i64 0, .int .i64 0, .int .i64 0, .int .u64 0, .int .u64 0, .int .u64 0, .int .u64 0, .int .u64 0, .int .u64 0, .int .i64 0, .int .i64 0], .bool true]) ∧ HAt w' h ab db (s.doIt (aStore 2 1)) ∧ Fr [h, db] W w' :=
  br81 H 0 0 0 0 0 0 0 0 0 0 L 0
end
theorem shBegin (line p bk u L : Int) (h0 : 0 ≤ u) (h1 : u < 18446744073709551616) (hc : isCell u = true) (W : World) : Calls Try.prog 26 #[.agg #[.int .i64 line, .int .i64 0, .int .i64 0, .int .i64 0, .int .i64 0, .int .u64 0, .int .u64 0, .int .u64 0, .int .u64 0, .int .u64 0, .int .u64 p, .int .i64 bk, .int .i64 0], .int .u64 u, .int .i64 L] W fun e w' => e = .returned (.agg #[.int .i64 80, .int .i64 0, .int .i64 0, .int .i64 0, .int .i64 0, .int .u64 0, .int .u64 0, .int .u64 0, .int .u64 0, .int .u64 0, .int .u64 u, .int .i64 L, .int .i64 0]) ∧ Fr [] W w' := by
  have h := begin_any ⟨line, 0, 0, 0, 0, 0, 0, 0, 0, 0, p, bk, 0⟩ u L h0 h1 W
  unfold brBegin at h
  rw [if_pos hc] at h
  exact h
theorem shBeginN (line p bk u L : Int) (h0 : 0 ≤ u) (h1 : u < 18446744073709551616) (hc : isCell u = false) (W : World) : Calls Try.prog 26 #[.agg #[.int .i64 line, .int .i64 0, .int .i64 0, .int .i64 0, .int .i64 0, .int .u64 0, .int .u64 0, .int .u64 0, .int .u64 0, .int .u64 0, .int .u64 p, .int .i64 bk, .int .i64 0], .int .u64 u, .int .i64 L] W fun e w' => e = .returned (.agg #[.int .i64 L, .int .i64 0, .int .i64 0, .int .i64 0, .int .i64 0, .int .u64 0, .int .u64 0, .int .u64 0, .int .u64 0, .int .u64 0, .int .u64 0, .int .i64 0, .int .i64 0]) ∧ Fr [] W w' := by
  have h := begin_any ⟨line, 0, 0, 0, 0, 0, 0, 0, 0, 0, p, bk, 0⟩ u L h0 h1 W
  unfold brBegin at h
  rw [if_neg (by simp [hc])] at h
  exact h

end Go.Proofs.Ytinafadacgloaaa
