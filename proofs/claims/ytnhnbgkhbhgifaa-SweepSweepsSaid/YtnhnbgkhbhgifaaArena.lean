/- Package arena, and the atomic words beneath it: what each call does to the words. -/
import Derived.Test.YtnhnbgkhbhgifaaPlain
import Derived.Test.YtnhnbgkhbhgifaaProg
import Derived.Test.YtnhnbgkhbhgifaaBase
import Derived.WalkLawsBesides
namespace Go.Proofs.Ytnhnbgkhbhgifaa
open Go.RowKit
set_option linter.unusedVariables false
set_option linter.unusedSimpArgs false


/-- An arena at block ab, its words in block db. -/
structure AAt (w : World) (ab db : Nat) (ws : List Int) : Prop where
  hdr : Blk w ab 208 [.slice (some ⟨db, 0, none⟩) ws.length ws.length]
  dat : Blk w db 213 (u64s ws)
  ne : ab ≠ db
  len : ws.length ≤ 140737488355328
  wf : ∀ x, x ∈ ws → 0 ≤ x ∧ x < 18446744073709551616

section
variable {w w' : World} {ab db : Nat} {ws : List Int}
theorem AAt.kept {S : List Nat} (h : AAt w ab db ws) (f : Fr S w w') (ha : ab ∉ S) (hd : db ∉ S) : AAt w' ab db ws := ⟨h.hdr.kept f ha, h.dat.kept f hd, h.ne, h.len, h.wf⟩
theorem AAt.alloc (h : AAt w ab db ws) (o : Obj) : AAt (w.alloc o) ab db ws := ⟨h.hdr.alloc o, h.dat.alloc o, h.ne, h.len, h.wf⟩
theorem AAt.drew (h : AAt w ab db ws) : AAt w.drew ab db ws := ⟨h.hdr, h.dat, h.ne, h.len, h.wf⟩
theorem AAt.other (h : AAt w ab db ws) {p : Addr} (h1 : ab ≠ p.block) (h2 : db ≠ p.block) (u : Value) : AAt (w.setCell p u) ab db ws := ⟨h.hdr.other h1 u, h.dat.other h2 u, h.ne, h.len, h.wf⟩
theorem AAt.set (h : AAt w ab db ws) (i : Nat) (x : Int) (hx : 0 ≤ x ∧ x < 18446744073709551616) : AAt (w.setCell ⟨db, i, none⟩ (.int .u64 x)) ab db (ws.set i x) :=
  ⟨by have := h.hdr.other (p := ⟨db, i, none⟩) h.ne (.int .u64 x); simpa using this, by have := h.dat.set i (.int .u64 x); rw [u64s_set] at this; exact this, h.ne, by simpa using h.len, fun y hy => by rcases List.mem_or_eq_of_mem_set hy with h1 | h1; exact h.wf y h1; subst h1; exact hx⟩
theorem AAt.cell (h : AAt w ab db ws) (i : Nat) (hi : i < ws.length) : w.cell? ⟨db, i, none⟩ = some (.int .u64 (ws.getD i 0)) := by rw [h.dat.cell, u64s_get _ _ hi]
theorem AAt.bd (h : AAt w ab db ws) (i : Int) : 0 ≤ wAt ws i ∧ wAt ws i < 18446744073709551616 := by
  unfold wAt
  split
  · rw [List.getD_eq_getElem?_getD]
    cases e : ws[i.toNat]? with
    | none => simp
    | some y => exact h.wf y (List.mem_of_getElem? e)
  · omega
theorem AAt.cellW (h : AAt w ab db ws) (i : Int) (h0 : 0 ≤ i) (h1 : i < ws.length) : w.cell? ⟨db, i.toNat, none⟩ = some (.int .u64 (wAt ws i)) := by rw [h.cell _ (by omega), wAt, if_pos ⟨h0, h1⟩]
end

/-- The arena's 'at': in range. -/
theorem at_in {w : World} {ab db : Nat} {ws : List Int} (h : AAt w ab db ws) (i : Int) (h0 : 0 ≤ i) (h1 : i < ws.length) :
    Calls Try.prog 140 #[.pointer (some ⟨ab, 0, none⟩), .int .i64 i] w fun e w' => e = .returned (.pointer (some ⟨db, i.toNat, none⟩)) ∧ w = w' := by
  have hc : w.cell? ⟨ab, 0, none⟩ = some (.slice (some ⟨db, 0, none⟩) ws.length ws.length) := h.hdr.cell 0
  have hl := h.len
  go_enter Try.func140, Try.ntmps140
  go_wp2
  go_ret
  exact ⟨rfl, rfl⟩

theorem at_out {w : World} {ab db : Nat} {ws : List Int} (h : AAt w ab db ws) (i : Int) (h1 : i < 0 ∨ ws.length ≤ i) :
    Calls Try.prog 140 #[.pointer (some ⟨ab, 0, none⟩), .int .i64 i] w fun e w' => e = .returned (.pointer none) ∧ w = w' := by
  have hc : w.cell? ⟨ab, 0, none⟩ = some (.slice (some ⟨db, 0, none⟩) ws.length ws.length) := h.hdr.cell 0
  have hl := h.len
  rcases h1 with h1 | h1
  · go_enter Try.func140, Try.ntmps140
    go_wp2
    go_ret
    exact ⟨rfl, rfl⟩
  · have h0 : 0 ≤ i := by omega
    go_enter Try.func140, Try.ntmps140
    go_wp2
    go_ret
    exact ⟨rfl, rfl⟩

theorem at_nil (i : Int) (w : World) :
    Calls Try.prog 140 #[.pointer none, .int .i64 i] w fun e w' => e = .returned (.pointer none) ∧ w = w' := by
  go_enter Try.func140, Try.ntmps140
  go_wp2
  go_ret
  exact ⟨rfl, rfl⟩

theorem u64_load (b o : Nat) (x : Int) (w : World) (hc : w.cell? ⟨b, o, none⟩ = some (.int .u64 x)) :
    Calls Try.prog 141 #[.pointer (some ⟨b, o, none⟩)] w fun e w' => e = .returned (.int .u64 x) ∧ w = w' := by
  have hl := run_call_load (P := Try.prog) Try.func167 (by kernel_rfl) (by kernel_rfl) (by kernel_rfl) .u64 (by kernel_rfl) hc
  go_enter Try.func141, Try.ntmps141
  go_wp2
  go_ret
  exact ⟨rfl, rfl⟩

theorem u64_store (b o : Nat) (x y : Int) (w : World) (hc : w.cell? ⟨b, o, none⟩ = some (.int .u64 x)) (hf : w.frozen? ⟨b, o, none⟩ = false) :
    Calls Try.prog 139 #[.pointer (some ⟨b, o, none⟩), .int .u64 y] w fun e w' => e = .returned (.tuple #[]) ∧ w.setCell ⟨b, o, none⟩ (.int .u64 y) = w' := by
  have hl := run_call_store (P := Try.prog) (k := .u64) (y := y) Try.func166 (by kernel_rfl) (by kernel_rfl) (by kernel_rfl) (by kernel_rfl) hc hf
  go_enter Try.func139, Try.ntmps139
  go_wp2
  go_end0
  exact ⟨rfl, rfl⟩

theorem u64_cas_hit (b o : Nat) (x y : Int) (w : World) (hc : w.cell? ⟨b, o, none⟩ = some (.int .u64 x)) (hf : w.frozen? ⟨b, o, none⟩ = false) :
    Calls Try.prog 168 #[.pointer (some ⟨b, o, none⟩), .int .u64 x, .int .u64 y] w fun e w' => e = .returned (.bool true) ∧ w.setCell ⟨b, o, none⟩ (.int .u64 y) = w' := by
  have hl := run_call_cas_hit (P := Try.prog) (y := y) Try.func180 (by kernel_rfl) (by kernel_rfl) (by kernel_rfl) .u64 (by kernel_rfl) hc hf
  go_enter Try.func168, Try.ntmps168
  go_wp2
  go_ret
  exact ⟨rfl, rfl⟩

theorem u64_cas_miss (b o : Nat) (v x y : Int) (w : World) (hc : w.cell? ⟨b, o, none⟩ = some (.int .u64 v)) (hf : w.frozen? ⟨b, o, none⟩ = false) (hv : ¬ v = x) :
    Calls Try.prog 168 #[.pointer (some ⟨b, o, none⟩), .int .u64 x, .int .u64 y] w fun e w' => e = .returned (.bool false) ∧ w = w' := by
  have hl := run_call_cas_miss (P := Try.prog) (o := x) (y := y) Try.func180 (by kernel_rfl) (by kernel_rfl) (by kernel_rfl) .u64 (by kernel_rfl) hc hf hv
  go_enter Try.func168, Try.ntmps168
  go_wp2
  go_ret
  exact ⟨rfl, rfl⟩

theorem addW_bd (x y : Int) : 0 ≤ addW x y ∧ addW x y < 18446744073709551616 := by unfold addW; omega

theorem u64_add (b o : Nat) (x y : Int) (w : World) (hc : w.cell? ⟨b, o, none⟩ = some (.int .u64 x)) (hf : w.frozen? ⟨b, o, none⟩ = false) :
    Calls Try.prog 169 #[.pointer (some ⟨b, o, none⟩), .int .u64 y] w fun e w' => e = .returned (.int .u64 (addW x y)) ∧ w.setCell ⟨b, o, none⟩ (.int .u64 (addW x y)) = w' := by
  have hs : (Op.intArith .add .u64 x y).run Try.prog w = .ok (.int .u64 (addW x y)) w := by
    simp [go_sem, addW, IntKind.wrap, IntKind.signed]
  have hl := run_call_add (P := Try.prog) (y := y) Try.func181 (by kernel_rfl) (by kernel_rfl) (by kernel_rfl) .u64 (by kernel_rfl) hc hf hs
  go_enter Try.func169, Try.ntmps169
  go_wp2
  go_ret
  exact ⟨rfl, rfl⟩


theorem aload_in {w : World} {ab db : Nat} {ws : List Int} (h : AAt w ab db ws) (i : Int) (h0 : 0 ≤ i) (h1 : i < ws.length) :
    Calls Try.prog 89 #[.pointer (some ⟨ab, 0, none⟩), .int .i64 i] w fun e w' => e = .returned (.int .u64 (wAt ws i)) ∧ w = w' := by
  have hc := h.cellW i h0 h1
  go_enter Try.func89, Try.ntmps89
  go_wp2_with (first | (go_at_call 140; refine (at_in h i h0 h1).mono ?_; rintro e w' ⟨rfl, rfl⟩) | (go_at_call 141; refine (u64_load db i.toNat _ _ hc).mono ?_; rintro e w' ⟨rfl, rfl⟩))
  go_ret
  exact ⟨rfl, rfl⟩

theorem aload_out {w : World} {ab db : Nat} {ws : List Int} (h : AAt w ab db ws) (i : Int) (h1 : i < 0 ∨ ws.length ≤ i) :
    Calls Try.prog 89 #[.pointer (some ⟨ab, 0, none⟩), .int .i64 i] w fun e w' => e = .returned (.int .u64 0) ∧ w = w' := by
  go_enter Try.func89, Try.ntmps89
  go_wp2_with (first | (go_at_call 140; refine (at_out h i h1).mono ?_; rintro e w' ⟨rfl, rfl⟩))
  go_ret
  exact ⟨rfl, rfl⟩

theorem aload {w : World} {ab db : Nat} {ws : List Int} (h : AAt w ab db ws) (i : Int) :
    Calls Try.prog 89 #[.pointer (some ⟨ab, 0, none⟩), .int .i64 i] w fun e w' => e = .returned (.int .u64 (wAt ws i)) ∧ w = w' := by
  by_cases hr : 0 ≤ i ∧ i < ws.length
  · exact aload_in h i hr.1 hr.2
  · rw [wAt, if_neg hr]; exact aload_out h i (by omega)

theorem astore_in {w : World} {ab db : Nat} {ws : List Int} (h : AAt w ab db ws) (i x : Int) (h0 : 0 ≤ i) (h1 : i < ws.length) :
    Calls Try.prog 91 #[.pointer (some ⟨ab, 0, none⟩), .int .i64 i, .int .u64 x] w fun e w' => e = .returned (.tuple #[]) ∧ w.setCell ⟨db, i.toNat, none⟩ (.int .u64 x) = w' := by
  have hc := h.cellW i h0 h1
  have hf := h.dat.free i.toNat
  go_enter Try.func91, Try.ntmps91
  go_wp2_with (first | (go_at_call 140; refine (at_in h i h0 h1).mono ?_; rintro e w' ⟨rfl, rfl⟩) | (go_at_call 139; refine (u64_store db i.toNat _ _ _ hc hf).mono ?_; rintro e w' ⟨rfl, rfl⟩))
  go_end0
  exact ⟨rfl, rfl⟩

theorem acas_hit {w : World} {ab db : Nat} {ws : List Int} (h : AAt w ab db ws) (i x y : Int) (h0 : 0 ≤ i) (h1 : i < ws.length) (hx : wAt ws i = x) :
    Calls Try.prog 142 #[.pointer (some ⟨ab, 0, none⟩), .int .i64 i, .int .u64 x, .int .u64 y] w fun e w' => e = .returned (.bool true) ∧ w.setCell ⟨db, i.toNat, none⟩ (.int .u64 y) = w' := by
  have hc := h.cellW i h0 h1
  rw [hx] at hc
  clear hx
  have hf := h.dat.free i.toNat
  go_enter Try.func142, Try.ntmps142
  go_wp2_with (first | (go_at_call 140; refine (at_in h i h0 h1).mono ?_; rintro e w' ⟨rfl, rfl⟩) | (go_at_call 168; refine (u64_cas_hit db i.toNat _ _ _ hc hf).mono ?_; rintro e w' ⟨rfl, rfl⟩))
  go_ret
  exact ⟨rfl, rfl⟩

theorem acas_miss {w : World} {ab db : Nat} {ws : List Int} (h : AAt w ab db ws) (i x y : Int) (h0 : 0 ≤ i) (h1 : i < ws.length) (hx : ¬ wAt ws i = x) :
    Calls Try.prog 142 #[.pointer (some ⟨ab, 0, none⟩), .int .i64 i, .int .u64 x, .int .u64 y] w fun e w' => e = .returned (.bool false) ∧ w = w' := by
  have hc := h.cellW i h0 h1
  have hf := h.dat.free i.toNat
  go_enter Try.func142, Try.ntmps142
  go_wp2_with (first | (go_at_call 140; refine (at_in h i h0 h1).mono ?_; rintro e w' ⟨rfl, rfl⟩) | (go_at_call 168; refine (u64_cas_miss db i.toNat _ _ _ _ hc hf hx).mono ?_; rintro e w' ⟨rfl, rfl⟩))
  go_ret
  exact ⟨rfl, rfl⟩

theorem aadd_in {w : World} {ab db : Nat} {ws : List Int} (h : AAt w ab db ws) (i x : Int) (h0 : 0 ≤ i) (h1 : i < ws.length) :
    Calls Try.prog 143 #[.pointer (some ⟨ab, 0, none⟩), .int .i64 i, .int .u64 x] w fun e w' => (∃ r, e = .returned (.int .u64 r)) ∧ w.setCell ⟨db, i.toNat, none⟩ (.int .u64 (addW (wAt ws i) x)) = w' := by
  have hc := h.cellW i h0 h1
  have hf := h.dat.free i.toNat
  go_enter Try.func143, Try.ntmps143
  go_wp2_with (first | (go_at_call 140; refine (at_in h i h0 h1).mono ?_; rintro e w' ⟨rfl, rfl⟩) | (go_at_call 169; refine (u64_add db i.toNat _ _ _ hc hf).mono ?_; rintro e w' ⟨rfl, rfl⟩))
  go_ret
  exact ⟨⟨_, rfl⟩, rfl⟩

theorem set_wAt (ws : List Int) (i : Int) (h0 : 0 ≤ i) (h1 : i < ws.length) : ws.set i.toNat (wAt ws i) = ws := by
  have hn : i.toNat < ws.length := by omega
  rw [wAt, if_pos ⟨h0, h1⟩, List.getD_eq_getElem?_getD, List.getElem?_eq_getElem hn]
  simp



end Go.Proofs.Ytnhnbgkhbhgifaa
