/- A block that holds mutators one behind the other: reading one, writing one. -/
import Derived.Test.YtolkgdchinaonaaPlain
import Derived.Test.YtolkgdchinaonaaProg
import Derived.Test.YtolkgdchinaonaaHand
namespace Go.Proofs.Ytolkgdchinaonaa
open Go.RowKit
set_option linter.unusedVariables false
set_option linter.unusedSimpArgs false

def mutsCs (A : List MutV) : List Value := A.flatMap MutV.cells
theorem mutsCs_cons (a : MutV) (A : List MutV) : mutsCs (a :: A) = a.cells ++ mutsCs A := rfl
theorem cells_len (x : MutV) : x.cells.length = 13 := rfl
theorem mutsCs_len (A : List MutV) : (mutsCs A).length = A.length * 13 := by
  induction A with
  | nil => rfl
  | cons a A ih => rw [mutsCs_cons, List.length_append, ih, cells_len, List.length_cons]; omega
theorem mutsCs_get : ∀ (A : List MutV) (m : Nat) (x : MutV), A[m]? = some x → ∀ j, j < 13 → (mutsCs A)[m * 13 + j]? = x.cells[j]? := by
  intro A
  induction A with
  | nil => intro m x h; simp at h
  | cons a A ih =>
    intro m x h j hj
    cases m with
    | zero =>
      simp at h; subst h
      rw [mutsCs_cons, Nat.zero_mul, Nat.zero_add, List.getElem?_append_left (by rw [cells_len]; exact hj)]
    | succ m =>
      rw [mutsCs_cons, List.getElem?_append_right (by rw [cells_len]; omega), cells_len, show (m + 1) * 13 + j - 13 = m * 13 + j by omega]
      exact ih m x (by simpa using h) j hj
def set13 (l : List Value) (o : Nat) (v0 v1 v2 v3 v4 v5 v6 v7 v8 v9 v10 v11 v12 : Value) : List Value := (((((((((((((l.set (o) v0).set (o + 1) v1).set (o + 2) v2).set (o + 3) v3).set (o + 4) v4).set (o + 5) v5).set (o + 6) v6).set (o + 7) v7).set (o + 8) v8).set (o + 9) v9).set (o + 10) v10).set (o + 11) v11).set (o + 12) v12)
theorem set13_left (l r : List Value) (v0 v1 v2 v3 v4 v5 v6 v7 v8 v9 v10 v11 v12 : Value) (h : l.length = 13) : set13 (l ++ r) 0 v0 v1 v2 v3 v4 v5 v6 v7 v8 v9 v10 v11 v12 = [v0, v1, v2, v3, v4, v5, v6, v7, v8, v9, v10, v11, v12] ++ r := by
  match l, h with
  | [u0, u1, u2, u3, u4, u5, u6, u7, u8, u9, u10, u11, u12], _ => rfl
theorem set13_right (l r : List Value) (o : Nat) (v0 v1 v2 v3 v4 v5 v6 v7 v8 v9 v10 v11 v12 : Value) (h : l.length = 13) : set13 (l ++ r) (13 + o) v0 v1 v2 v3 v4 v5 v6 v7 v8 v9 v10 v11 v12 = l ++ set13 r o v0 v1 v2 v3 v4 v5 v6 v7 v8 v9 v10 v11 v12 := by
  unfold set13
  simp only [Nat.add_assoc]
  repeat rw [List.set_append_right _ _ (by omega), h, Nat.add_sub_cancel_left]
theorem mutsCs_set : ∀ (A : List MutV) (m : Nat) (y : MutV), m < A.length → set13 (mutsCs A) (m * 13) (.int .i64 y.line) (.int .i64 y.ok) (.int .i64 y.oa) (.int .i64 y.ob) (.int .i64 y.oc) (.int .u64 y.a) (.int .u64 y.b) (.int .u64 y.c) (.int .u64 y.n) (.int .u64 y.t) (.int .u64 y.p) (.int .i64 y.back) (.int .i64 y.ret) = mutsCs (A.set m y) := by
  intro A
  induction A with
  | nil => intro m y h; simp at h
  | cons a A ih =>
    intro m y h
    cases m with
    | zero => rw [mutsCs_cons, Nat.zero_mul, set13_left _ _ _ _ _ _ _ _ _ _ _ _ _ _ _ (cells_len a)]; rfl
    | succ m =>
      rw [mutsCs_cons, show (m + 1) * 13 = 13 + m * 13 by omega, set13_right _ _ _ _ _ _ _ _ _ _ _ _ _ _ _ _ (cells_len a), ih m y (by simpa using h)]
      rfl
def W13 (w : World) (b o : Nat) (v0 v1 v2 v3 v4 v5 v6 v7 v8 v9 v10 v11 v12 : Value) : World := (((((((((((((w.setCell ⟨b, o, none⟩ v0).setCell ⟨b, o + 1, none⟩ v1).setCell ⟨b, o + 2, none⟩ v2).setCell ⟨b, o + 3, none⟩ v3).setCell ⟨b, o + 4, none⟩ v4).setCell ⟨b, o + 5, none⟩ v5).setCell ⟨b, o + 6, none⟩ v6).setCell ⟨b, o + 7, none⟩ v7).setCell ⟨b, o + 8, none⟩ v8).setCell ⟨b, o + 9, none⟩ v9).setCell ⟨b, o + 10, none⟩ v10).setCell ⟨b, o + 11, none⟩ v11).setCell ⟨b, o + 12, none⟩ v12)
theorem size13 (w : World) (b o : Nat) (v0 v1 v2 v3 v4 v5 v6 v7 v8 v9 v10 v11 v12 : Value) : (W13 w b o v0 v1 v2 v3 v4 v5 v6 v7 v8 v9 v10 v11 v12).heap.size = w.heap.size := by unfold W13; simp only [World.size_setCell]
theorem Blk.at13 {w : World} {b : Nat} {t : TypeId} {A : List MutV} (h : Blk w b t (mutsCs A)) {m : Nat} {x : MutV} (hx : A[m]? = some x) : w.cell? ⟨b, m * 13, none⟩ = some (.int .i64 x.line) ∧ w.cell? ⟨b, m * 13 + 1, none⟩ = some (.int .i64 x.ok) ∧ w.cell? ⟨b, m * 13 + 2, none⟩ = some (.int .i64 x.oa) ∧ w.cell? ⟨b, m * 13 + 3, none⟩ = some (.int .i64 x.ob) ∧ w.cell? ⟨b, m * 13 + 4, none⟩ = some (.int .i64 x.oc) ∧ w.cell? ⟨b, m * 13 + 5, none⟩ = some (.int .u64 x.a) ∧ w.cell? ⟨b, m * 13 + 6, none⟩ = some (.int .u64 x.b) ∧ w.cell? ⟨b, m * 13 + 7, none⟩ = some (.int .u64 x.c) ∧ w.cell? ⟨b, m * 13 + 8, none⟩ = some (.int .u64 x.n) ∧ w.cell? ⟨b, m * 13 + 9, none⟩ = some (.int .u64 x.t) ∧ w.cell? ⟨b, m * 13 + 10, none⟩ = some (.int .u64 x.p) ∧ w.cell? ⟨b, m * 13 + 11, none⟩ = some (.int .i64 x.back) ∧ w.cell? ⟨b, m * 13 + 12, none⟩ = some (.int .i64 x.ret) := by
  have g := fun j (hj : j < 13) => (h.cell (m * 13 + j)).trans (mutsCs_get A m x hx j hj)
  exact ⟨g 0 (by omega), g 1 (by omega), g 2 (by omega), g 3 (by omega), g 4 (by omega), g 5 (by omega), g 6 (by omega), g 7 (by omega), g 8 (by omega), g 9 (by omega), g 10 (by omega), g 11 (by omega), g 12 (by omega)⟩
theorem Blk.set13 {w : World} {b : Nat} {t : TypeId} {A : List MutV} (h : Blk w b t (mutsCs A)) {m : Nat} (hm : m < A.length) (y : MutV) : Blk (W13 w b (m * 13) (.int .i64 y.line) (.int .i64 y.ok) (.int .i64 y.oa) (.int .i64 y.ob) (.int .i64 y.oc) (.int .u64 y.a) (.int .u64 y.b) (.int .u64 y.c) (.int .u64 y.n) (.int .u64 y.t) (.int .u64 y.p) (.int .i64 y.back) (.int .i64 y.ret)) b t (mutsCs (A.set m y)) := by
  rw [← mutsCs_set A m y hm]
  exact (((((((((((((h.set (m * 13) _).set (m * 13 + 1) _).set (m * 13 + 2) _).set (m * 13 + 3) _).set (m * 13 + 4) _).set (m * 13 + 5) _).set (m * 13 + 6) _).set (m * 13 + 7) _).set (m * 13 + 8) _).set (m * 13 + 9) _).set (m * 13 + 10) _).set (m * 13 + 11) _).set (m * 13 + 12) _)
theorem Blk.oth13 {w : World} {b k : Nat} {t : TypeId} {cs : List Value} (H : Blk w k t cs) (d : k ≠ b) (o : Nat) (v0 v1 v2 v3 v4 v5 v6 v7 v8 v9 v10 v11 v12 : Value) : Blk (W13 w b o v0 v1 v2 v3 v4 v5 v6 v7 v8 v9 v10 v11 v12) k t cs :=
  (((((((((((((H.other (p := ⟨b, o, none⟩) d v0).other (p := ⟨b, o + 1, none⟩) d v1).other (p := ⟨b, o + 2, none⟩) d v2).other (p := ⟨b, o + 3, none⟩) d v3).other (p := ⟨b, o + 4, none⟩) d v4).other (p := ⟨b, o + 5, none⟩) d v5).other (p := ⟨b, o + 6, none⟩) d v6).other (p := ⟨b, o + 7, none⟩) d v7).other (p := ⟨b, o + 8, none⟩) d v8).other (p := ⟨b, o + 9, none⟩) d v9).other (p := ⟨b, o + 10, none⟩) d v10).other (p := ⟨b, o + 11, none⟩) d v11).other (p := ⟨b, o + 12, none⟩) d v12)
theorem Fr.set13 {S : List Nat} {a w : World} {b : Nat} (H : Fr S a w) (hb : a.heap.size ≤ b) (o : Nat) (v0 v1 v2 v3 v4 v5 v6 v7 v8 v9 v10 v11 v12 : Value) : Fr S a (W13 w b o v0 v1 v2 v3 v4 v5 v6 v7 v8 v9 v10 v11 v12) :=
  (((((((((((((H.setNew (p := ⟨b, o, none⟩) hb v0).setNew (p := ⟨b, o + 1, none⟩) hb v1).setNew (p := ⟨b, o + 2, none⟩) hb v2).setNew (p := ⟨b, o + 3, none⟩) hb v3).setNew (p := ⟨b, o + 4, none⟩) hb v4).setNew (p := ⟨b, o + 5, none⟩) hb v5).setNew (p := ⟨b, o + 6, none⟩) hb v6).setNew (p := ⟨b, o + 7, none⟩) hb v7).setNew (p := ⟨b, o + 8, none⟩) hb v8).setNew (p := ⟨b, o + 9, none⟩) hb v9).setNew (p := ⟨b, o + 10, none⟩) hb v10).setNew (p := ⟨b, o + 11, none⟩) hb v11).setNew (p := ⟨b, o + 12, none⟩) hb v12)
theorem RdS.oth13 {w : World} {v : Value} {n b : Nat} {cs : List Value} (H : RdS w v n cs) (d : v.ownBlock ≠ some b) (o : Nat) (v0 v1 v2 v3 v4 v5 v6 v7 v8 v9 v10 v11 v12 : Value) : RdS (W13 w b o v0 v1 v2 v3 v4 v5 v6 v7 v8 v9 v10 v11 v12) v n cs :=
  (((((((((((((H.other (p := ⟨b, o, none⟩) d v0).other (p := ⟨b, o + 1, none⟩) d v1).other (p := ⟨b, o + 2, none⟩) d v2).other (p := ⟨b, o + 3, none⟩) d v3).other (p := ⟨b, o + 4, none⟩) d v4).other (p := ⟨b, o + 5, none⟩) d v5).other (p := ⟨b, o + 6, none⟩) d v6).other (p := ⟨b, o + 7, none⟩) d v7).other (p := ⟨b, o + 8, none⟩) d v8).other (p := ⟨b, o + 9, none⟩) d v9).other (p := ⟨b, o + 10, none⟩) d v10).other (p := ⟨b, o + 11, none⟩) d v11).other (p := ⟨b, o + 12, none⟩) d v12)
theorem HAt.oth13 {w : World} {h ab db b : Nat} {s : HS} (H : HAt w h ab db s) (d1 : h ≠ b) (d2 : ab ≠ b) (d3 : db ≠ b) (o : Nat) (v0 v1 v2 v3 v4 v5 v6 v7 v8 v9 v10 v11 v12 : Value) : HAt (W13 w b o v0 v1 v2 v3 v4 v5 v6 v7 v8 v9 v10 v11 v12) h ab db s :=
  (((((((((((((H.other (p := ⟨b, o, none⟩) d1 d2 d3 v0).other (p := ⟨b, o + 1, none⟩) d1 d2 d3 v1).other (p := ⟨b, o + 2, none⟩) d1 d2 d3 v2).other (p := ⟨b, o + 3, none⟩) d1 d2 d3 v3).other (p := ⟨b, o + 4, none⟩) d1 d2 d3 v4).other (p := ⟨b, o + 5, none⟩) d1 d2 d3 v5).other (p := ⟨b, o + 6, none⟩) d1 d2 d3 v6).other (p := ⟨b, o + 7, none⟩) d1 d2 d3 v7).other (p := ⟨b, o + 8, none⟩) d1 d2 d3 v8).other (p := ⟨b, o + 9, none⟩) d1 d2 d3 v9).other (p := ⟨b, o + 10, none⟩) d1 d2 d3 v10).other (p := ⟨b, o + 11, none⟩) d1 d2 d3 v11).other (p := ⟨b, o + 12, none⟩) d1 d2 d3 v12)
def mutZ : MutV := ⟨0, 0, 0, 0, 0, 0, 0, 0, 0, 0, 0, 0, 0⟩
theorem infoM1 : (Try.prog.info? 54).map (fun i => (i.zero, i.size, i.bytes)) = some (some (.agg #[.int .i64 0, .int .i64 0, .int .i64 0, .int .i64 0, .int .i64 0, .int .u64 0, .int .u64 0, .int .u64 0, .int .u64 0, .int .u64 0, .int .u64 0, .int .i64 0, .int .i64 0]), 13, 104) := by kernel_rfl
theorem made_muts0 : madeCells #[.int .i64 0, .int .i64 0, .int .i64 0, .int .i64 0, .int .i64 0, .int .u64 0, .int .u64 0, .int .u64 0, .int .u64 0, .int .u64 0, .int .u64 0, .int .i64 0, .int .i64 0] (0 * 13) = (mutsCs (List.replicate 0 mutZ)).toArray := by kernel_rfl
theorem made_muts1 : madeCells #[.int .i64 0, .int .i64 0, .int .i64 0, .int .i64 0, .int .i64 0, .int .u64 0, .int .u64 0, .int .u64 0, .int .u64 0, .int .u64 0, .int .u64 0, .int .i64 0, .int .i64 0] (1 * 13) = (mutsCs (List.replicate 1 mutZ)).toArray := by kernel_rfl
theorem made_muts2 : madeCells #[.int .i64 0, .int .i64 0, .int .i64 0, .int .i64 0, .int .i64 0, .int .u64 0, .int .u64 0, .int .u64 0, .int .u64 0, .int .u64 0, .int .u64 0, .int .i64 0, .int .i64 0] (2 * 13) = (mutsCs (List.replicate 2 mutZ)).toArray := by kernel_rfl
theorem made_muts3 : madeCells #[.int .i64 0, .int .i64 0, .int .i64 0, .int .i64 0, .int .i64 0, .int .u64 0, .int .u64 0, .int .u64 0, .int .u64 0, .int .u64 0, .int .u64 0, .int .i64 0, .int .i64 0] (3 * 13) = (mutsCs (List.replicate 3 mutZ)).toArray := by kernel_rfl
theorem made_muts4 : madeCells #[.int .i64 0, .int .i64 0, .int .i64 0, .int .i64 0, .int .i64 0, .int .u64 0, .int .u64 0, .int .u64 0, .int .u64 0, .int .u64 0, .int .u64 0, .int .i64 0, .int .i64 0] (4 * 13) = (mutsCs (List.replicate 4 mutZ)).toArray := by kernel_rfl
theorem made_muts5 : madeCells #[.int .i64 0, .int .i64 0, .int .i64 0, .int .i64 0, .int .i64 0, .int .u64 0, .int .u64 0, .int .u64 0, .int .u64 0, .int .u64 0, .int .u64 0, .int .i64 0, .int .i64 0] (5 * 13) = (mutsCs (List.replicate 5 mutZ)).toArray := by kernel_rfl
theorem made_muts6 : madeCells #[.int .i64 0, .int .i64 0, .int .i64 0, .int .i64 0, .int .i64 0, .int .u64 0, .int .u64 0, .int .u64 0, .int .u64 0, .int .u64 0, .int .u64 0, .int .i64 0, .int .i64 0] (6 * 13) = (mutsCs (List.replicate 6 mutZ)).toArray := by kernel_rfl
theorem made_muts (k : Nat) (hk : k ≤ 6) : madeCells #[.int .i64 0, .int .i64 0, .int .i64 0, .int .i64 0, .int .i64 0, .int .u64 0, .int .u64 0, .int .u64 0, .int .u64 0, .int .u64 0, .int .u64 0, .int .i64 0, .int .i64 0] (k * 13) = (mutsCs (List.replicate k mutZ)).toArray := by
  have h : k = 0 ∨ k = 1 ∨ k = 2 ∨ k = 3 ∨ k = 4 ∨ k = 5 ∨ k = 6 := by omega
  rcases h with rfl | rfl | rfl | rfl | rfl | rfl | rfl
  · exact made_muts0
  · exact made_muts1
  · exact made_muts2
  · exact made_muts3
  · exact made_muts4
  · exact made_muts5
  · exact made_muts6
theorem mkMuts (w : World) (k : Nat) (hk : k ≤ 6) : (Instr.makeSlice 50 (.int .i64 (k : Int)) (.int .i64 (k : Int))).run Try.prog w = .ok (.slice (some ⟨w.heap.size, 0, none⟩) k k) (w.alloc (.cells (mutsCs (List.replicate k mutZ)).toArray 54)) := by
  obtain ⟨i0, hi, hz0, hz1, hz2⟩ := info_parts infoM1
  have h := run_make (P := Try.prog) w 50 54 i0 (.agg #[.int .i64 0, .int .i64 0, .int .i64 0, .int .i64 0, .int .i64 0, .int .u64 0, .int .u64 0, .int .u64 0, .int .u64 0, .int .u64 0, .int .u64 0, .int .i64 0, .int .i64 0]) Try.underlying50 hi hz0 .i64 .i64 k k (by omega) (by omega) (by rw [hz2]; omega) (by omega)
  rw [hz1] at h
  have e : (Value.agg #[.int .i64 0, .int .i64 0, .int .i64 0, .int .i64 0, .int .i64 0, .int .u64 0, .int .u64 0, .int .u64 0, .int .u64 0, .int .u64 0, .int .u64 0, .int .i64 0, .int .i64 0]).cells = #[.int .i64 0, .int .i64 0, .int .i64 0, .int .i64 0, .int .i64 0, .int .u64 0, .int .u64 0, .int .u64 0, .int .u64 0, .int .u64 0, .int .u64 0, .int .i64 0, .int .i64 0] := rfl
  rw [e, show ((k : Int)).toNat = k from rfl, made_muts k hk] at h
  exact h
theorem infoI2 : (Try.prog.info? 3).map (fun i => (i.zero, i.size, i.bytes)) = some (some (.int .i64 0), 1, 8) := by kernel_rfl
theorem mkInts (w : World) (n : Nat) (hn : n ≤ 4398046511104) : (Instr.makeSlice 55 (.int .i64 (n : Int)) (.int .i64 (n : Int))).run Try.prog w = .ok (.slice (some ⟨w.heap.size, 0, none⟩) n n) (w.alloc (.cells ((List.replicate n (0 : Int)).map (Value.int .i64)).toArray 3)) := by
  obtain ⟨i0, hi, hz0, hz1, hz2⟩ := info_parts infoI2
  have h := run_make (P := Try.prog) w 55 3 i0 (.int .i64 0) Try.underlying55 hi hz0 .i64 .i64 n n (by omega) (by omega) (by rw [hz2]; omega) (by omega)
  rw [hz1, zeros_toArray _ (.int .i64 0) _ rfl] at h
  simpa using h
set_option maxHeartbeats 4000000 in
/-- A mutator is loaded whole. -/
theorem load13 {w : World} {b : Nat} {t : TypeId} {A : List MutV} (h : Blk w b t (mutsCs A)) {m : Nat} {x : MutV} (hx : A[m]? = some x) :
    (Instr.loadAt 54 (.pointer (some ⟨b, m * 13, none⟩))).run Try.prog w = .ok x.val w := by
  obtain ⟨g0, g1, g2, g3, g4, g5, g6, g7, g8, g9, g10, g11, g12⟩ := h.at13 hx
  go_simp
  rfl
set_option maxHeartbeats 4000000 in
/-- A mutator is stored whole. -/
theorem store13 {w : World} {b : Nat} {t : TypeId} {A : List MutV} (h : Blk w b t (mutsCs A)) {m : Nat} (hm : m < A.length) (v0 v1 v2 v3 v4 v5 v6 v7 v8 v9 v10 v11 v12 : Int) :
    (Instr.storeAt 54 (.pointer (some ⟨b, m * 13, none⟩)) (.agg #[.int .i64 v0, .int .i64 v1, .int .i64 v2, .int .i64 v3, .int .i64 v4, .int .u64 v5, .int .u64 v6, .int .u64 v7, .int .u64 v8, .int .u64 v9, .int .u64 v10, .int .i64 v11, .int .i64 v12])).run Try.prog w = .ok () (W13 w b (m * 13) (.int .i64 v0) (.int .i64 v1) (.int .i64 v2) (.int .i64 v3) (.int .i64 v4) (.int .u64 v5) (.int .u64 v6) (.int .u64 v7) (.int .u64 v8) (.int .u64 v9) (.int .u64 v10) (.int .i64 v11) (.int .i64 v12)) := by
  obtain ⟨g0, g1, g2, g3, g4, g5, g6, g7, g8, g9, g10, g11, g12⟩ := h.at13 (List.getElem?_eq_getElem hm)
  have f := h.free
  unfold W13
  go_simp
set_option maxHeartbeats 4000000 in
theorem loadB13 {w : World} {b : Nat} {t : TypeId} {v0 v1 v2 v3 v4 v5 v6 v7 v8 v9 v10 v11 v12 : Int} (h : Blk w b t [.int .i64 v0, .int .i64 v1, .int .i64 v2, .int .i64 v3, .int .i64 v4, .int .u64 v5, .int .u64 v6, .int .u64 v7, .int .u64 v8, .int .u64 v9, .int .u64 v10, .int .i64 v11, .int .i64 v12]) :
    (Instr.loadAt 54 (.pointer (some ⟨b, 0, none⟩))).run Try.prog w = .ok (.agg #[.int .i64 v0, .int .i64 v1, .int .i64 v2, .int .i64 v3, .int .i64 v4, .int .u64 v5, .int .u64 v6, .int .u64 v7, .int .u64 v8, .int .u64 v9, .int .u64 v10, .int .i64 v11, .int .i64 v12]) w := by
  have k := h.cell
  go_simp

end Go.Proofs.Ytolkgdchinaonaa
