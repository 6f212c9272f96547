/- The document's hand (mudlarkref05, mudlarkref07): what each call does to its words. -/
import Derived.Test.YtnhnbgkhbhgifaaHand
namespace Go.Proofs.Ytnhnbgkhbhgifaa
open Go.RowKit
set_option linter.unusedVariables false
set_option linter.unusedSimpArgs false

/-- Words in a slice of the call's own. -/
structure DAt (w : World) (rd : Nat) (ws : List Int) (ext : List Value) : Prop where
  dat : Blk w rd 36 (u64s ws ++ ext)
  len : ws.length ≤ 35184372088832
  wf : ∀ x, x ∈ ws → 0 ≤ x ∧ x < 18446744073709551616
section
variable {w w' : World} {rd : Nat} {ws : List Int} {ext : List Value}
theorem DAt.kept {S : List Nat} (h : DAt w rd ws ext) (f : Fr S w w') (hd : rd ∉ S) : DAt w' rd ws ext := ⟨h.dat.kept f hd, h.len, h.wf⟩
theorem DAt.alloc (h : DAt w rd ws ext) (o : Obj) : DAt (w.alloc o) rd ws ext := ⟨h.dat.alloc o, h.len, h.wf⟩
theorem DAt.drew (h : DAt w rd ws ext) : DAt w.drew rd ws ext := ⟨h.dat, h.len, h.wf⟩
theorem DAt.other (h : DAt w rd ws ext) {p : Addr} (hp : rd ≠ p.block) (u : Value) : DAt (w.setCell p u) rd ws ext := ⟨h.dat.other hp u, h.len, h.wf⟩
theorem DAt.set (h : DAt w rd ws ext) (i : Nat) (hi : i < ws.length) (x : Int) (hx : 0 ≤ x ∧ x < 18446744073709551616) : DAt (w.setCell ⟨rd, i, none⟩ (.int .u64 x)) rd (ws.set i x) ext :=
  ⟨by have := h.dat.set i (.int .u64 x); rw [List.set_append_left _ _ (by simpa using hi), u64s_set] at this; exact this, by simpa using h.len, fun y hy => by rcases List.mem_or_eq_of_mem_set hy with h1 | h1; exact h.wf y h1; subst h1; exact hx⟩
theorem DAt.cell (h : DAt w rd ws ext) (i : Int) (h0 : 0 ≤ i) (h1 : i < ws.length) : w.cell? ⟨rd, i.toNat, none⟩ = some (.int .u64 (wAt ws i)) := by
  rw [h.dat.cell, List.getElem?_append_left (by simp; omega), u64s_get _ _ (by omega), wAt, if_pos ⟨h0, h1⟩]
theorem DAt.bd (h : DAt w rd ws ext) (i : Int) : 0 ≤ wAt ws i ∧ wAt ws i < 18446744073709551616 := by
  unfold wAt
  split
  · rw [List.getD_eq_getElem?_getD]
    cases e : ws[i.toNat]? with
    | none => simp
    | some y => exact h.wf y (List.mem_of_getElem? e)
  · omega
end

theorem rdo_load {w : World} {rd cap : Nat} {ws : List Int} {ext : List Value} (h : DAt w rd ws ext) (i x y o : Int) (h0 : 0 ≤ i) (h1 : i < ws.length) :
    Calls Try.prog 92 #[.slice (some ⟨rd, 0, none⟩) ws.length cap, .agg #[.int .i64 1, .int .i64 i, .int .u64 x, .int .u64 y, .int .u64 o]] w fun e w' => e = .returned (.tuple #[.agg #[.int .i64 1, .int .i64 i, .int .u64 x, .int .u64 y, .int .u64 (wAt ws i)], .bool true]) ∧ (DAt w' rd ws ext ∧ Fr [rd] w w') := by
  have hlt := h.dat.lt
  have hl := h.len
  have hc := h.cell i h0 h1
  have hf := h.dat.free i.toNat
  have hbd := h.bd i
  go_enter Try.func92, Try.ntmps92
  go_wp2
  all_goals exact bodyPost_ret (v := .tuple #[.agg #[.int .i64 1, .int .i64 i, .int .u64 x, .int .u64 y, .int .u64 (wAt ws i)], .bool true]) (by simp [results, Try.results92, go_sem]) rfl ⟨rfl, (h.alloc _).alloc _, ((Fr.refl _ _).alloc _).alloc _⟩

theorem rdo_store {w : World} {rd cap : Nat} {ws : List Int} {ext : List Value} (h : DAt w rd ws ext) (i x y o : Int) (h0 : 0 ≤ i) (h1 : i < ws.length) (hx : 0 ≤ x ∧ x < 18446744073709551616) :
    Calls Try.prog 92 #[.slice (some ⟨rd, 0, none⟩) ws.length cap, .agg #[.int .i64 2, .int .i64 i, .int .u64 x, .int .u64 y, .int .u64 o]] w fun e w' => e = .returned (.tuple #[.agg #[.int .i64 2, .int .i64 i, .int .u64 x, .int .u64 y, .int .u64 (wAt ws i)], .bool true]) ∧ (DAt w' rd (ws.set i.toNat x) ext ∧ Fr [rd] w w') := by
  have hlt := h.dat.lt
  have hl := h.len
  have hc := h.cell i h0 h1
  have hf := h.dat.free i.toNat
  have hbd := h.bd i
  go_enter Try.func92, Try.ntmps92
  go_wp2
  all_goals exact bodyPost_ret (v := .tuple #[.agg #[.int .i64 2, .int .i64 i, .int .u64 x, .int .u64 y, .int .u64 (wAt ws i)], .bool true]) (by simp [results, Try.results92, go_sem]) rfl ⟨rfl, ((h.set i.toNat (by omega) x hx).alloc _).alloc _, (((Fr.refl _ _).setCell (by simp) _).alloc _).alloc _⟩

theorem rdo_hit {w : World} {rd cap : Nat} {ws : List Int} {ext : List Value} (h : DAt w rd ws ext) (i y o : Int) (h0 : 0 ≤ i) (h1 : i < ws.length) (hy : 0 ≤ y ∧ y < 18446744073709551616) :
    Calls Try.prog 92 #[.slice (some ⟨rd, 0, none⟩) ws.length cap, .agg #[.int .i64 3, .int .i64 i, .int .u64 (wAt ws i), .int .u64 y, .int .u64 o]] w fun e w' => e = .returned (.tuple #[.agg #[.int .i64 3, .int .i64 i, .int .u64 (wAt ws i), .int .u64 y, .int .u64 (wAt ws i)], .bool true]) ∧ (DAt w' rd (ws.set i.toNat y) ext ∧ Fr [rd] w w') := by
  have hlt := h.dat.lt
  have hl := h.len
  have hc := h.cell i h0 h1
  have hf := h.dat.free i.toNat
  have hbd := h.bd i
  go_enter Try.func92, Try.ntmps92
  go_wp2
  all_goals exact bodyPost_ret (v := .tuple #[.agg #[.int .i64 3, .int .i64 i, .int .u64 (wAt ws i), .int .u64 y, .int .u64 (wAt ws i)], .bool true]) (by simp [results, Try.results92, go_sem]) rfl ⟨rfl, ((h.set i.toNat (by omega) y hy).alloc _).alloc _, (((Fr.refl _ _).setCell (by simp) _).alloc _).alloc _⟩

theorem rdo_miss {w : World} {rd cap : Nat} {ws : List Int} {ext : List Value} (h : DAt w rd ws ext) (i x y o : Int) (h0 : 0 ≤ i) (h1 : i < ws.length) (hh : ¬ wAt ws i = x) :
    Calls Try.prog 92 #[.slice (some ⟨rd, 0, none⟩) ws.length cap, .agg #[.int .i64 3, .int .i64 i, .int .u64 x, .int .u64 y, .int .u64 o]] w fun e w' => e = .returned (.tuple #[.agg #[.int .i64 3, .int .i64 i, .int .u64 x, .int .u64 y, .int .u64 (wAt ws i)], .bool true]) ∧ (DAt w' rd ws ext ∧ Fr [rd] w w') := by
  have hlt := h.dat.lt
  have hl := h.len
  have hc := h.cell i h0 h1
  have hf := h.dat.free i.toNat
  have hbd := h.bd i
  go_enter Try.func92, Try.ntmps92
  go_wp2
  all_goals exact bodyPost_ret (v := .tuple #[.agg #[.int .i64 3, .int .i64 i, .int .u64 x, .int .u64 y, .int .u64 (wAt ws i)], .bool true]) (by simp [results, Try.results92, go_sem]) rfl ⟨rfl, (h.alloc _).alloc _, ((Fr.refl _ _).alloc _).alloc _⟩

theorem rdo_add {w : World} {rd cap : Nat} {ws : List Int} {ext : List Value} (h : DAt w rd ws ext) (i x y o : Int) (h0 : 0 ≤ i) (h1 : i < ws.length) :
    Calls Try.prog 92 #[.slice (some ⟨rd, 0, none⟩) ws.length cap, .agg #[.int .i64 4, .int .i64 i, .int .u64 x, .int .u64 y, .int .u64 o]] w fun e w' => e = .returned (.tuple #[.agg #[.int .i64 4, .int .i64 i, .int .u64 x, .int .u64 y, .int .u64 (wAt ws i)], .bool true]) ∧ (DAt w' rd (ws.set i.toNat (addW (wAt ws i) x)) ext ∧ Fr [rd] w w') := by
  have hlt := h.dat.lt
  have hl := h.len
  have hc := h.cell i h0 h1
  have hf := h.dat.free i.toNat
  have hbd := h.bd i
  have hw : IntKind.u64.wrap (wAt ws i + x) = addW (wAt ws i) x := by rw [IntKind.wrap_u64]; rfl
  go_enter Try.func92, Try.ntmps92
  go_wp2
  all_goals exact bodyPost_ret (v := .tuple #[.agg #[.int .i64 4, .int .i64 i, .int .u64 x, .int .u64 y, .int .u64 (wAt ws i)], .bool true]) (by simp [results, Try.results92, go_sem]) rfl ⟨rfl, ((h.set i.toNat (by omega) _ (addW_bd _ _)).alloc _).alloc _, (((Fr.refl _ _).setCell (by simp) _).alloc _).alloc _⟩

theorem rdo_out {w : World} {rd cap : Nat} {ws : List Int} {ext : List Value} (h : DAt w rd ws ext) (k i x y o : Int) (hi : i < 0 ∨ ws.length ≤ i) (k1 : 1 ≤ k) (k4 : k ≤ 4) :
    Calls Try.prog 92 #[.slice (some ⟨rd, 0, none⟩) ws.length cap, .agg #[.int .i64 k, .int .i64 i, .int .u64 x, .int .u64 y, .int .u64 o]] w fun e w' => e = .returned (.tuple #[.agg #[.int .i64 0, .int .i64 0, .int .u64 0, .int .u64 0, .int .u64 0], .bool false]) ∧ (DAt w' rd ws ext ∧ Fr [rd] w w') := by
  have hlt := h.dat.lt
  have hl := h.len
  go_enter Try.func92, Try.ntmps92
  go_wp2
  all_goals exact bodyPost_ret (v := .tuple #[.agg #[.int .i64 0, .int .i64 0, .int .u64 0, .int .u64 0, .int .u64 0], .bool false]) (by simp [results, Try.results92, go_sem]) rfl ⟨rfl, (h.alloc _).alloc _, ((Fr.refl _ _).alloc _).alloc _⟩

theorem rdo_kind0 {w : World} {rd cap : Nat} {ws : List Int} {ext : List Value} (h : DAt w rd ws ext) (k i x y o : Int) (kk : k < 1 ∨ 4 < k) :
    Calls Try.prog 92 #[.slice (some ⟨rd, 0, none⟩) ws.length cap, .agg #[.int .i64 k, .int .i64 i, .int .u64 x, .int .u64 y, .int .u64 o]] w fun e w' => e = .returned (.tuple #[.agg #[.int .i64 0, .int .i64 0, .int .u64 0, .int .u64 0, .int .u64 0], .bool false]) ∧ (DAt w' rd ws ext ∧ Fr [rd] w w') := by
  have hlt := h.dat.lt
  have hl := h.len
  go_enter Try.func92, Try.ntmps92
  go_wp2
  all_goals exact bodyPost_ret (v := .tuple #[.agg #[.int .i64 0, .int .i64 0, .int .u64 0, .int .u64 0, .int .u64 0], .bool false]) (by simp [results, Try.results92, go_sem]) rfl ⟨rfl, (h.alloc _).alloc _, ((Fr.refl _ _).alloc _).alloc _⟩

/-- Do, whatever the access. -/
theorem rdo {w : World} {rd cap : Nat} {ws : List Int} {ext : List Value} (h : DAt w rd ws ext) (a : Acc) (hx : 0 ≤ a.x ∧ a.x < 18446744073709551616) (hy : 0 ≤ a.y ∧ a.y < 18446744073709551616) :
    Calls Try.prog 92 #[.slice (some ⟨rd, 0, none⟩) ws.length cap, a.val] w fun e w' => e = .returned (.tuple #[(a.done ws).val, .bool (a.ok ws)]) ∧ (DAt w' rd (a.ws ws) ext ∧ Fr [rd] w w') := by
  obtain ⟨k, i, x, y, o⟩ := a
  simp only at hx hy
  by_cases hk : k < 1 ∨ 4 < k
  · have e : Acc.ok ⟨k, i, x, y, o⟩ ws = false := by
      rw [Bool.eq_false_iff]; intro hh; simp [Acc.ok] at hh; omega
    simpa [e, Acc.done, Acc.ws, Acc.z] using rdo_kind0 (cap := cap) h k i x y o hk
  by_cases hr : 0 ≤ i ∧ i < ws.length
  · obtain ⟨h0, h1⟩ := hr
    have e : Acc.ok ⟨k, i, x, y, o⟩ ws = true := by
      simp [Acc.ok, h0, h1]; omega
    have e3 := set_wAt ws i h0 h1
    by_cases k1 : k = 1
    · subst k1
      simpa [e, Acc.done, Acc.ws, Acc.new, e3] using rdo_load (cap := cap) h i x y o h0 h1
    by_cases k2 : k = 2
    · subst k2
      simpa [e, Acc.done, Acc.ws, Acc.new] using rdo_store (cap := cap) h i x y o h0 h1 hx
    by_cases k3 : k = 3
    · subst k3
      by_cases hh : wAt ws i = x
      · subst hh
        simpa [e, Acc.done, Acc.ws, Acc.new] using rdo_hit (cap := cap) h i y o h0 h1 hy
      · simpa [e, Acc.done, Acc.ws, Acc.new, hh, e3] using rdo_miss (cap := cap) h i x y o h0 h1 hh
    obtain rfl : k = 4 := by omega
    simpa [e, Acc.done, Acc.ws, Acc.new] using rdo_add (cap := cap) h i x y o h0 h1
  · have e : Acc.ok ⟨k, i, x, y, o⟩ ws = false := by
      rw [Bool.eq_false_iff]; intro hh; simp [Acc.ok] at hh; omega
    simpa [e, Acc.done, Acc.ws, Acc.z] using rdo_out (cap := cap) h k i x y o (by omega) (by omega) (by omega)


end Go.Proofs.Ytnhnbgkhbhgifaa
