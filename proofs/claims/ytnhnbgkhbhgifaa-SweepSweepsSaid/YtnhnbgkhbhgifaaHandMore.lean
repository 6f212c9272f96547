/- More of the hands: all words, what an access leaves. -/
import Derived.Test.YtnhnbgkhbhgifaaRefHand
import Derived.Test.YtnhnbgkhbhgifaaHandNew
import Derived.Test.YtnhnbgkhbhgifaaLaw10
namespace Go.Proofs.Ytnhnbgkhbhgifaa
open Go.RowKit
set_option linter.unusedVariables false
set_option linter.unusedSimpArgs false

theorem HAt.short {w : World} {h ab db : Nat} {s : HS} (H : HAt w h ab db s) : s.ws.length ≤ 35184372088832 := by have := H.len; have := H.right.words_pos; omega
theorem HAt.to {w : World} {h ab db : Nat} {s s2 : HS} (H : HAt w h ab db s) (e : s = s2) : HAt w h ab db s2 := e ▸ H
theorem HAt.pos {w : World} {h ab db : Nat} {s : HS} (H : HAt w h ab db s) : (0 : Int) < s.ws.length := by have := H.len; have := H.right.words_pos; omega
theorem HAt.all {w : World} {h ab db : Nat} {s : HS} (H : HAt w h ab db s) :
    Calls Try.prog 35 #[.pointer (some ⟨ab, 0, none⟩)] w fun e w' => SomeOwn w 36 s.ws.length (u64s s.ws) e w' ∧ Fr [] w w' := all_any H.ar (by have := H.len; have := H.right.words_pos; omega)
theorem RAt.zero {w : World} {r rd cap : Nat} {ext : List Value} {s : HS} (H : RAt w r rd cap ext s) : RAt (((((w.setCell ⟨r, 5, none⟩ (.int .i64 0)).setCell ⟨r, 6, none⟩ (.int .i64 0)).setCell ⟨r, 7, none⟩ (.int .u64 0)).setCell ⟨r, 8, none⟩ (.int .u64 0)).setCell ⟨r, 9, none⟩ (.int .u64 0)) r rd cap ext ⟨s.c, s.ws, Acc.z⟩ := by
  obtain ⟨B, A, n1, R, L⟩ := H
  have zB := ((((B.set 5 (.int .i64 0)).set 6 (.int .i64 0)).set 7 (.int .u64 0)).set 8 (.int .u64 0)).set 9 (.int .u64 0)
  simp only [rcs, List.set_cons_zero, List.set_cons_succ] at zB
  exact ⟨zB, ((((A.other (p := ⟨r, 5, none⟩) n1.symm _).other (p := ⟨r, 6, none⟩) n1.symm _).other (p := ⟨r, 7, none⟩) n1.symm _).other (p := ⟨r, 8, none⟩) n1.symm _).other (p := ⟨r, 9, none⟩) n1.symm _, n1, R, L⟩
theorem HAt.all_of {w : World} {h ab db : Nat} {s : HS} {ws : List Int} (H : HAt w h ab db s) (e : s.ws = ws) :
    Calls Try.prog 35 #[.pointer (some ⟨ab, 0, none⟩)] w fun e w' => SomeOwn w 36 ws.length (u64s ws) e w' ∧ Fr [] w w' := e ▸ H.all
theorem same_true {w : World} {u v : Value} {a : List Int} (ha : a.length ≤ 35184372088832) (hu : RdS w u a.length (u64s a)) (hv : RdS w v a.length (u64s a)) :
    Calls Try.prog 20 #[u, v] w fun e w' => e = .returned (.bool true) ∧ Fr [] w w' := by
  have := rSame_any hu hv ha ha
  rw [decide_eq_true (rfl : a = a)] at this
  exact this

theorem DAt.rds {w : World} {g cap : Nat} {l : List Int} {ext : List Value} (h : DAt w g l ext) : RdS w (.slice (some ⟨g, 0, none⟩) l.length cap) l.length (u64s l) :=
  .inr ⟨g, 0, cap, rfl, h.dat.lt, fun j hj => by rw [Nat.zero_add, h.dat.cell, List.getElem?_append_left hj]⟩
theorem DAt.rdsm {w : World} {g cap m : Nat} {l : List Int} {ext : List Value} (h : DAt w g l ext) (e : l.length = m) : RdS w (.slice (some ⟨g, 0, none⟩) m cap) l.length (u64s l) := e ▸ h.rds
theorem HAt.allD {w : World} {h ab db : Nat} {s : HS} (H : HAt w h ab db s) :
    Calls Try.prog 35 #[.pointer (some ⟨ab, 0, none⟩)] w fun e w' => NewSlice w s.ws e w' ∧ Fr [] w w' := by
  have h0 := H.len
  have h1 := H.right.words_pos
  refine H.all.mono ?_
  rintro e w' ⟨⟨cv, rfl, hl, ⟨rfl, hz⟩ | ⟨g, cap, cur, rfl, hg, hb, hnc, hcm, hcs, ht⟩⟩, hF⟩
  · omega
  · refine ⟨⟨g, cap, cur.toList.drop s.ws.length, rfl, ⟨?_, by omega, H.ar.wf⟩, hg⟩, hF⟩
    rw [Nat.mul_one] at ht
    unfold Blk
    rw [← ht, List.take_append_drop]
    exact hb

section
variable (s : HS) (i x y : Int)
theorem Acc.not_in {a : Acc} {ws : List Int} (h : ¬ (0 ≤ a.at_ ∧ a.at_ < ws.length)) : a.ok ws = false := by
  have e : (decide (0 ≤ a.at_) && decide (a.at_ < (ws.length : Int))) = false := by
    rw [← Bool.not_eq_true, Bool.and_eq_true, decide_eq_true_eq, decide_eq_true_eq]; exact h
  unfold Acc.ok
  rw [Bool.and_assoc, e, Bool.and_false]
theorem HS.doIt_out {a : Acc} (h : ¬ (0 ≤ a.at_ ∧ a.at_ < s.ws.length)) : s.doIt a = ⟨s.c, s.ws, Acc.z⟩ := by
  simp only [HS.doIt, Acc.done, Acc.ws, Acc.not_in h, Bool.false_eq_true, if_false]
theorem HS.doIt_in {a : Acc} (k1 : 1 ≤ a.kind) (k4 : a.kind ≤ 4) (h0 : 0 ≤ a.at_) (h1 : a.at_ < s.ws.length) : s.doIt a = ⟨s.c, s.ws.set a.at_.toNat (a.new (wAt s.ws a.at_)), { a with old := wAt s.ws a.at_ }⟩ := by
  have e : a.ok s.ws = true := by simp [Acc.ok, k1, k4, h0, h1]
  simp only [HS.doIt, Acc.done, Acc.ws, e, if_true]
theorem doIt_load : s.doIt (aLoad i) = ⟨s.c, s.ws, Acc.z⟩ ∨ (0 ≤ i ∧ i < s.ws.length ∧ s.doIt (aLoad i) = ⟨s.c, s.ws, ⟨1, i, 0, 0, wAt s.ws i⟩⟩) := by
  by_cases h : 0 ≤ i ∧ i < s.ws.length
  · refine .inr ⟨h.1, h.2, ?_⟩
    rw [s.doIt_in (a := aLoad i) (by simp [aLoad]) (by simp [aLoad]) h.1 h.2]
    simp only [aLoad, Acc.new]
    simp [set_wAt s.ws i h.1 h.2]
  · exact .inl (s.doIt_out (a := aLoad i) h)
theorem doIt_store : s.doIt (aStore i x) = ⟨s.c, s.ws, Acc.z⟩ ∨ (0 ≤ i ∧ i < s.ws.length ∧ s.doIt (aStore i x) = ⟨s.c, s.ws.set i.toNat x, ⟨2, i, x, 0, wAt s.ws i⟩⟩) := by
  by_cases h : 0 ≤ i ∧ i < s.ws.length
  · refine .inr ⟨h.1, h.2, ?_⟩
    rw [s.doIt_in (a := aStore i x) (by simp [aStore]) (by simp [aStore]) h.1 h.2]
    simp [aStore, Acc.new]
  · exact .inl (s.doIt_out (a := aStore i x) h)
theorem doIt_cas : s.doIt (aCas i x y) = ⟨s.c, s.ws, Acc.z⟩ ∨ (0 ≤ i ∧ i < s.ws.length ∧ wAt s.ws i = x ∧ s.doIt (aCas i x y) = ⟨s.c, s.ws.set i.toNat y, ⟨3, i, x, y, x⟩⟩) ∨ (0 ≤ i ∧ i < s.ws.length ∧ ¬ wAt s.ws i = x ∧ s.doIt (aCas i x y) = ⟨s.c, s.ws, ⟨3, i, x, y, wAt s.ws i⟩⟩) := by
  by_cases h : 0 ≤ i ∧ i < s.ws.length
  · have e := s.doIt_in (a := aCas i x y) (by simp [aCas]) (by simp [aCas]) h.1 h.2
    by_cases hx : wAt s.ws i = x
    · refine .inr (.inl ⟨h.1, h.2, hx, ?_⟩)
      rw [e]
      simp [aCas, Acc.new, hx]
    · refine .inr (.inr ⟨h.1, h.2, hx, ?_⟩)
      rw [e]
      simp [aCas, Acc.new, hx, set_wAt s.ws i h.1 h.2]
  · exact .inl (s.doIt_out (a := aCas i x y) h)
theorem doIt_add : s.doIt (aAdd i x) = ⟨s.c, s.ws, Acc.z⟩ ∨ (0 ≤ i ∧ i < s.ws.length ∧ s.doIt (aAdd i x) = ⟨s.c, s.ws.set i.toNat (addW (wAt s.ws i) x), ⟨4, i, x, 0, wAt s.ws i⟩⟩) := by
  by_cases h : 0 ≤ i ∧ i < s.ws.length
  · refine .inr ⟨h.1, h.2, ?_⟩
    rw [s.doIt_in (a := aAdd i x) (by simp [aAdd]) (by simp [aAdd]) h.1 h.2]
    simp [aAdd, Acc.new]
  · exact .inl (s.doIt_out (a := aAdd i x) h)
end

end Go.Proofs.Ytnhnbgkhbhgifaa
