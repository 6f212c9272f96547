/- arena.Do: an access, done. -/
import Derived.Test.YtnhnbgkhbhgifaaArena
namespace Go.Proofs.Ytnhnbgkhbhgifaa
open Go.RowKit
set_option linter.unusedVariables false
set_option linter.unusedSimpArgs false

theorem ado_load {w : World} {ab db : Nat} {ws : List Int} (h : AAt w ab db ws) (i x y o : Int) (h0 : 0 ≤ i) (h1 : i < ws.length) :
    Calls Try.prog 90 #[.pointer (some ⟨ab, 0, none⟩), .agg #[.int .i64 1, .int .i64 i, .int .u64 x, .int .u64 y, .int .u64 o]] w fun e w' => e = .returned (.tuple #[.agg #[.int .i64 1, .int .i64 i, .int .u64 x, .int .u64 y, .int .u64 (wAt ws i)], .bool true]) ∧ (AAt w' ab db ws ∧ Fr [db] w w') := by
  have hlt := h.dat.lt
  have h2 := fun o1 o2 => (h.alloc o1).alloc o2
  go_enter Try.func90, Try.ntmps90
  go_wp2_with (first | (go_at_call 140; refine (at_in (h2 _ _) i h0 h1).mono ?_; rintro e w' ⟨rfl, rfl⟩) | (go_at_call 89; refine (aload (h2 _ _) i).mono ?_; rintro e w' ⟨rfl, rfl⟩))
  exact bodyPost_ret (v := .tuple #[.agg #[.int .i64 1, .int .i64 i, .int .u64 x, .int .u64 y, .int .u64 (wAt ws i)], .bool true]) (by simp [results, Try.results90, go_sem]) rfl ⟨rfl, (h.alloc _).alloc _, ((Fr.refl _ _).alloc _).alloc _⟩

theorem ado_store {w : World} {ab db : Nat} {ws : List Int} (h : AAt w ab db ws) (i x y o : Int) (h0 : 0 ≤ i) (h1 : i < ws.length) (hx : 0 ≤ x ∧ x < 18446744073709551616) :
    Calls Try.prog 90 #[.pointer (some ⟨ab, 0, none⟩), .agg #[.int .i64 2, .int .i64 i, .int .u64 x, .int .u64 y, .int .u64 o]] w fun e w' => e = .returned (.tuple #[.agg #[.int .i64 2, .int .i64 i, .int .u64 x, .int .u64 y, .int .u64 (wAt ws i)], .bool true]) ∧ (AAt w' ab db (ws.set i.toNat x) ∧ Fr [db] w w') := by
  have hlt := h.dat.lt
  have h2 := fun o1 o2 => (h.alloc o1).alloc o2
  go_enter Try.func90, Try.ntmps90
  go_wp2_with (first | (go_at_call 140; refine (at_in (h2 _ _) i h0 h1).mono ?_; rintro e w' ⟨rfl, rfl⟩) | (go_at_call 89; refine (aload (h2 _ _) i).mono ?_; rintro e w' ⟨rfl, rfl⟩) | (go_at_call 91; refine (astore_in (h2 _ _) i x h0 h1).mono ?_; rintro e w' ⟨rfl, rfl⟩))
  exact bodyPost_ret (v := .tuple #[.agg #[.int .i64 2, .int .i64 i, .int .u64 x, .int .u64 y, .int .u64 (wAt ws i)], .bool true]) (by simp [results, Try.results90, go_sem]) rfl ⟨rfl, ((h.set i.toNat x hx).alloc _).alloc _, (((Fr.refl _ _).setCell (by simp) _).alloc _).alloc _⟩

theorem ado_hit {w : World} {ab db : Nat} {ws : List Int} (h : AAt w ab db ws) (i x y o : Int) (h0 : 0 ≤ i) (h1 : i < ws.length) (hy : 0 ≤ y ∧ y < 18446744073709551616) (hh : wAt ws i = x) :
    Calls Try.prog 90 #[.pointer (some ⟨ab, 0, none⟩), .agg #[.int .i64 3, .int .i64 i, .int .u64 x, .int .u64 y, .int .u64 o]] w fun e w' => e = .returned (.tuple #[.agg #[.int .i64 3, .int .i64 i, .int .u64 x, .int .u64 y, .int .u64 (wAt ws i)], .bool true]) ∧ (AAt w' ab db (ws.set i.toNat y) ∧ Fr [db] w w') := by
  have hlt := h.dat.lt
  have h2 := fun o1 o2 => (h.alloc o1).alloc o2
  have H : Hid (wAt ws i = x) := hh
  clear hh
  go_enter Try.func90, Try.ntmps90
  go_wp2_with (first | (go_at_call 140; refine (at_in (h2 _ _) i h0 h1).mono ?_; rintro e w' ⟨rfl, rfl⟩) | (go_at_call 89; refine (aload (h2 _ _) i).mono ?_; rintro e w' ⟨rfl, rfl⟩) | (go_at_call 142; refine (acas_hit (h2 _ _) i x y h0 h1 H.out).mono ?_; rintro e w' ⟨rfl, rfl⟩))
  exact bodyPost_ret (v := .tuple #[.agg #[.int .i64 3, .int .i64 i, .int .u64 x, .int .u64 y, .int .u64 (wAt ws i)], .bool true]) (by simp [results, Try.results90, go_sem]) rfl ⟨rfl, ((h.set i.toNat y hy).alloc _).alloc _, (((Fr.refl _ _).setCell (by simp) _).alloc _).alloc _⟩

theorem ado_miss {w : World} {ab db : Nat} {ws : List Int} (h : AAt w ab db ws) (i x y o : Int) (h0 : 0 ≤ i) (h1 : i < ws.length) (hh : ¬ wAt ws i = x) :
    Calls Try.prog 90 #[.pointer (some ⟨ab, 0, none⟩), .agg #[.int .i64 3, .int .i64 i, .int .u64 x, .int .u64 y, .int .u64 o]] w fun e w' => e = .returned (.tuple #[.agg #[.int .i64 3, .int .i64 i, .int .u64 x, .int .u64 y, .int .u64 (wAt ws i)], .bool true]) ∧ (AAt w' ab db ws ∧ Fr [db] w w') := by
  have hlt := h.dat.lt
  have h2 := fun o1 o2 => (h.alloc o1).alloc o2
  have H : Hid (¬ wAt ws i = x) := hh
  clear hh
  go_enter Try.func90, Try.ntmps90
  go_wp2_with (first | (go_at_call 140; refine (at_in (h2 _ _) i h0 h1).mono ?_; rintro e w' ⟨rfl, rfl⟩) | (go_at_call 89; refine (aload (h2 _ _) i).mono ?_; rintro e w' ⟨rfl, rfl⟩) | (go_at_call 142; refine (acas_miss (h2 _ _) i x y h0 h1 H.out).mono ?_; rintro e w' ⟨rfl, rfl⟩))
  exact bodyPost_ret (v := .tuple #[.agg #[.int .i64 3, .int .i64 i, .int .u64 x, .int .u64 y, .int .u64 (wAt ws i)], .bool true]) (by simp [results, Try.results90, go_sem]) rfl ⟨rfl, (h.alloc _).alloc _, ((Fr.refl _ _).alloc _).alloc _⟩

theorem ado_add {w : World} {ab db : Nat} {ws : List Int} (h : AAt w ab db ws) (i x y o : Int) (h0 : 0 ≤ i) (h1 : i < ws.length) :
    Calls Try.prog 90 #[.pointer (some ⟨ab, 0, none⟩), .agg #[.int .i64 4, .int .i64 i, .int .u64 x, .int .u64 y, .int .u64 o]] w fun e w' => e = .returned (.tuple #[.agg #[.int .i64 4, .int .i64 i, .int .u64 x, .int .u64 y, .int .u64 (wAt ws i)], .bool true]) ∧ (AAt w' ab db (ws.set i.toNat (addW (wAt ws i) x)) ∧ Fr [db] w w') := by
  have hlt := h.dat.lt
  have h2 := fun o1 o2 => (h.alloc o1).alloc o2
  go_enter Try.func90, Try.ntmps90
  go_wp2_with (first | (go_at_call 140; refine (at_in (h2 _ _) i h0 h1).mono ?_; rintro e w' ⟨rfl, rfl⟩) | (go_at_call 89; refine (aload (h2 _ _) i).mono ?_; rintro e w' ⟨rfl, rfl⟩) | (go_at_call 143; refine (aadd_in (h2 _ _) i x h0 h1).mono ?_; rintro e w' ⟨⟨r, rfl⟩, rfl⟩))
  exact bodyPost_ret (v := .tuple #[.agg #[.int .i64 4, .int .i64 i, .int .u64 x, .int .u64 y, .int .u64 (wAt ws i)], .bool true]) (by simp [results, Try.results90, go_sem]) rfl ⟨rfl, ((h.set i.toNat _ (addW_bd _ _)).alloc _).alloc _, (((Fr.refl _ _).setCell (by simp) _).alloc _).alloc _⟩

theorem ado_kind {w : World} {ab db : Nat} {ws : List Int} (h : AAt w ab db ws) (k i x y o : Int) (h0 : 0 ≤ i) (h1 : i < ws.length) (k1 : ¬ k = 1) (k2 : ¬ k = 2) (k3 : ¬ k = 3) (k4 : ¬ k = 4) :
    Calls Try.prog 90 #[.pointer (some ⟨ab, 0, none⟩), .agg #[.int .i64 k, .int .i64 i, .int .u64 x, .int .u64 y, .int .u64 o]] w fun e w' => e = .returned (.tuple #[.agg #[.int .i64 0, .int .i64 0, .int .u64 0, .int .u64 0, .int .u64 0], .bool false]) ∧ (AAt w' ab db ws ∧ Fr [db] w w') := by
  have hlt := h.dat.lt
  have h2 := fun o1 o2 => (h.alloc o1).alloc o2
  go_enter Try.func90, Try.ntmps90
  go_wp2_with (first | (go_at_call 140; refine (at_in (h2 _ _) i h0 h1).mono ?_; rintro e w' ⟨rfl, rfl⟩) | (go_at_call 89; refine (aload (h2 _ _) i).mono ?_; rintro e w' ⟨rfl, rfl⟩))
  exact bodyPost_ret (v := .tuple #[.agg #[.int .i64 0, .int .i64 0, .int .u64 0, .int .u64 0, .int .u64 0], .bool false]) (by simp [results, Try.results90, go_sem]) rfl ⟨rfl, (h.alloc _).alloc _, ((Fr.refl _ _).alloc _).alloc _⟩

theorem ado_out {w : World} {ab db : Nat} {ws : List Int} (h : AAt w ab db ws) (k i x y o : Int) (h1 : i < 0 ∨ ws.length ≤ i) :
    Calls Try.prog 90 #[.pointer (some ⟨ab, 0, none⟩), .agg #[.int .i64 k, .int .i64 i, .int .u64 x, .int .u64 y, .int .u64 o]] w fun e w' => e = .returned (.tuple #[.agg #[.int .i64 0, .int .i64 0, .int .u64 0, .int .u64 0, .int .u64 0], .bool false]) ∧ (AAt w' ab db ws ∧ Fr [db] w w') := by
  have hlt := h.dat.lt
  have h2 := fun o1 o2 => (h.alloc o1).alloc o2
  go_enter Try.func90, Try.ntmps90
  go_wp2_with (first | (go_at_call 140; refine (at_out (h2 _ _) i h1).mono ?_; rintro e w' ⟨rfl, rfl⟩))
  exact bodyPost_ret (v := .tuple #[.agg #[.int .i64 0, .int .i64 0, .int .u64 0, .int .u64 0, .int .u64 0], .bool false]) (by simp [results, Try.results90, go_sem]) rfl ⟨rfl, (h.alloc _).alloc _, ((Fr.refl _ _).alloc _).alloc _⟩

/-- Do, whatever the access. -/
theorem ado {w : World} {ab db : Nat} {ws : List Int} (h : AAt w ab db ws) (a : Acc) (hx : 0 ≤ a.x ∧ a.x < 18446744073709551616) (hy : 0 ≤ a.y ∧ a.y < 18446744073709551616) :
    Calls Try.prog 90 #[.pointer (some ⟨ab, 0, none⟩), a.val] w fun e w' => e = .returned (.tuple #[(a.done ws).val, .bool (a.ok ws)]) ∧ (AAt w' ab db (a.ws ws) ∧ Fr [db] w w') := by
  obtain ⟨k, i, x, y, o⟩ := a
  simp only at hx hy
  by_cases hr : 0 ≤ i ∧ i < ws.length
  · obtain ⟨h0, h1⟩ := hr
    by_cases k1 : k = 1
    · subst k1
      have e : Acc.ok ⟨1, i, x, y, o⟩ ws = true := by simp [Acc.ok, h0, h1]
      have e3 := set_wAt ws i h0 h1
      simpa [e, Acc.done, Acc.ws, Acc.new, e3] using ado_load h i x y o h0 h1
    by_cases k2 : k = 2
    · subst k2
      have e : Acc.ok ⟨2, i, x, y, o⟩ ws = true := by simp [Acc.ok, h0, h1]
      simpa [e, Acc.done, Acc.ws, Acc.new] using ado_store h i x y o h0 h1 hx
    by_cases k3 : k = 3
    · subst k3
      have e : Acc.ok ⟨3, i, x, y, o⟩ ws = true := by simp [Acc.ok, h0, h1]
      by_cases hh : wAt ws i = x
      · simpa [e, Acc.done, Acc.ws, Acc.new, hh] using ado_hit h i x y o h0 h1 hy hh
      · have e3 := set_wAt ws i h0 h1
        simpa [e, Acc.done, Acc.ws, Acc.new, hh, e3] using ado_miss h i x y o h0 h1 hh
    by_cases k4 : k = 4
    · subst k4
      have e : Acc.ok ⟨4, i, x, y, o⟩ ws = true := by simp [Acc.ok, h0, h1]
      simpa [e, Acc.done, Acc.ws, Acc.new] using ado_add h i x y o h0 h1
    · have e : Acc.ok ⟨k, i, x, y, o⟩ ws = false := by
        rw [Bool.eq_false_iff]; intro hh; simp [Acc.ok] at hh; omega
      simpa [e, Acc.done, Acc.ws, Acc.z] using ado_kind h k i x y o h0 h1 k1 k2 k3 k4
  · have e : Acc.ok ⟨k, i, x, y, o⟩ ws = false := by
      rw [Bool.eq_false_iff]; intro hh; simp [Acc.ok] at hh; omega
    simpa [e, Acc.done, Acc.ws, Acc.z] using ado_out h k i x y o (by omega)

end Go.Proofs.Ytnhnbgkhbhgifaa
