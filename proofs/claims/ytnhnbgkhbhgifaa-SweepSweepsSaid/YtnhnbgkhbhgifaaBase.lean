/- Words on memory that all walks of this seat use: what stays (Fr), blocks, the words of an arena. No program is named here. -/
import Derived.WalkKit
import Derived.WalkSpells
import Derived.WalkSmall
import Derived.WalkLawsBesides
import Derived.Deep.RegionHeld3
import Derived.IntWalk
import Derived.Deep.QuietTactic
import Derived.BigQuiet
namespace Go.Proofs.Ytnhnbgkhbhgifaa
open Go.RowKit
set_option linter.unusedVariables false
set_option linter.unusedSimpArgs false

/-- A fact hidden from the walk. -/
theorem hid {p : Prop} (h : p) : Hid p := h

theorem cell_lt {w : World} {b o : Nat} {v : Value} (h : w.cell? ⟨b, o, none⟩ = some v) : b < w.heap.size := World.block_lt_of_cell? _ _ h

/-- A number of 64 bits stays. -/
theorem w64 (x : Int) (h : -9223372036854775808 ≤ x ∧ x ≤ 9223372036854775807) : IntKind.i64.wrap x = x := IntWalk.i64_in x h

/-- All blocks that were there, but those of S, are as they were. -/
structure Fr (S : List Nat) (w w' : World) : Prop where
  os : w'.os = w.os
  tape : w'.tape = w.tape
  output : w'.output = w.output
  size : w.heap.size ≤ w'.heap.size
  block : ∀ k, k < w.heap.size → k ∉ S → w'.heap[k]? = w.heap[k]?

namespace Fr
variable {S T : List Nat} {a b c w w' : World}
theorem refl (S : List Nat) (w : World) : Fr S w w := ⟨rfl, rfl, rfl, Nat.le_refl _, fun _ _ _ => rfl⟩
theorem trans (h : Fr S a b) (k : Fr S b c) : Fr S a c :=
  ⟨k.os.trans h.os, k.tape.trans h.tape, k.output.trans h.output, Nat.le_trans h.size k.size, fun i hi hs => (k.block i (Nat.lt_of_lt_of_le hi h.size) hs).trans (h.block i hi hs)⟩
theorem mono (h : Fr S a b) (hS : ∀ k, k ∈ S → k ∈ T) : Fr T a b := ⟨h.os, h.tape, h.output, h.size, fun k hk hs => h.block k hk (fun m => hs (hS k m))⟩
/-- What is written in blocks that came behind a is no change of a. -/
theorem trans_new (h : Fr S a b) (k : Fr T b c) (hT : ∀ i, i ∈ T → i < a.heap.size → i ∈ S) : Fr S a c :=
  ⟨k.os.trans h.os, k.tape.trans h.tape, k.output.trans h.output, Nat.le_trans h.size k.size, fun i hi hs => (k.block i (Nat.lt_of_lt_of_le hi h.size) (fun m => hs (hT i m hi))).trans (h.block i hi hs)⟩
theorem drew (h : Fr S a w) : Fr S a w.drew := ⟨h.os, h.tape, h.output, h.size, h.block⟩
theorem drewN (h : Fr S a w) (n : Nat) : Fr S a (w.drewN n) := ⟨h.os, h.tape, h.output, h.size, h.block⟩
theorem alloc (h : Fr S a w) (o : Obj) : Fr S a (w.alloc o) :=
  h.trans ⟨rfl, rfl, rfl, by simp, fun k hk _ => Below.heap_alloc _ _ _ hk⟩
theorem setCell (h : Fr S a w) {p : Addr} (hp : p.block < a.heap.size → p.block ∈ S) (u : Value) : Fr S a (w.setCell p u) :=
  h.trans_new (T := [p.block]) ⟨rfl, rfl, rfl, by simp [World.setCell], fun k _ hk => Below.heap_setCell _ _ _ _ (by simpa using hk)⟩ (by intro i hi; simp at hi; subst hi; exact hp)
theorem setNew (h : Fr S a w) {p : Addr} (hp : a.heap.size ≤ p.block) (u : Value) : Fr S a (w.setCell p u) := h.setCell (fun hh => absurd hh (Nat.not_lt.2 hp)) u
theorem of_below {B : Nat} (h : Below B a b) (hB : a.heap.size ≤ B) : Fr S a b := ⟨h.os, h.tape, h.output, h.size, fun k hk _ => h.block k (Nat.lt_of_lt_of_le hk hB)⟩
theorem below {B : Nat} (h : Fr S a b) (hB : B ≤ a.heap.size) (hS : ∀ k, k ∈ S → B ≤ k) : Below B a b :=
  ⟨h.os, h.tape, h.output, h.size, fun k hk => h.block k (by omega) (fun m => by have := hS k m; omega)⟩
theorem cell (h : Fr S a b) {k o : Nat} (hk : k < a.heap.size) (hs : k ∉ S) : b.cell? ⟨k, o, none⟩ = a.cell? ⟨k, o, none⟩ := World.cell?_of_block (w := a) (h.block k hk hs)
theorem frozen (h : Fr S a b) {k o : Nat} (hk : k < a.heap.size) (hs : k ∉ S) : b.frozen? ⟨k, o, none⟩ = a.frozen? ⟨k, o, none⟩ := World.frozen?_of_block (w := a) (h.block k hk hs)
theorem cells1 {x : Nat} (h : Fr [x] a b) : ∀ k o, k < a.heap.size → ¬ k = x → b.cell? ⟨k, o, none⟩ = a.cell? ⟨k, o, none⟩ := fun _ _ hk hx => h.cell hk (by simpa using hx)
theorem frozen1 {x : Nat} (h : Fr [x] a b) : ∀ k o, k < a.heap.size → ¬ k = x → b.frozen? ⟨k, o, none⟩ = a.frozen? ⟨k, o, none⟩ := fun _ _ hk hx => h.frozen hk (by simpa using hx)
theorem cells0 (h : Fr [] a b) : ∀ k o, k < a.heap.size → b.cell? ⟨k, o, none⟩ = a.cell? ⟨k, o, none⟩ := fun _ _ hk => h.cell hk (by simp)
theorem frozen0 (h : Fr [] a b) : ∀ k o, k < a.heap.size → b.frozen? ⟨k, o, none⟩ = a.frozen? ⟨k, o, none⟩ := fun _ _ hk => h.frozen hk (by simp)
theorem cells2 {x y : Nat} (h : Fr [x, y] a b) : ∀ k o, k < a.heap.size → ¬ k = x → ¬ k = y → b.cell? ⟨k, o, none⟩ = a.cell? ⟨k, o, none⟩ := fun _ _ hk hx hy => h.cell hk (by simp [hx, hy])
theorem frozen2 {x y : Nat} (h : Fr [x, y] a b) : ∀ k o, k < a.heap.size → ¬ k = x → ¬ k = y → b.frozen? ⟨k, o, none⟩ = a.frozen? ⟨k, o, none⟩ := fun _ _ hk hx hy => h.frozen hk (by simp [hx, hy])
end Fr

/-- A block of cells, known whole, that may be written. -/
def Blk (w : World) (b : Nat) (t : TypeId) (cs : List Value) : Prop := w.heap[b]? = some (.cells cs.toArray t (0, 0))

namespace Blk
variable {w w' : World} {b : Nat} {t : TypeId} {cs : List Value}
theorem drewN (h : Blk w b t cs) (n : Nat) : Blk (w.drewN n) b t cs := h
theorem lt (h : Blk w b t cs) : b < w.heap.size := lt_of_block h
theorem cell (h : Blk w b t cs) (i : Nat) : w.cell? ⟨b, i, none⟩ = cs[i]? := by
  unfold Blk at h; simp [World.cell?, h]
theorem free (h : Blk w b t cs) (i : Nat) : w.frozen? ⟨b, i, none⟩ = false := by
  unfold Blk at h; simp [World.frozen?, h]
theorem kept {S : List Nat} (h : Blk w b t cs) (f : Fr S w w') (hb : b ∉ S) : Blk w' b t cs := (f.block b h.lt hb).trans h
theorem alloc (h : Blk w b t cs) (o : Obj) : Blk (w.alloc o) b t cs := (Below.heap_alloc _ _ _ h.lt).trans h
theorem drew (h : Blk w b t cs) : Blk w.drew b t cs := h
theorem other (h : Blk w b t cs) {p : Addr} (hp : b ≠ p.block) (u : Value) : Blk (w.setCell p u) b t cs := (Below.heap_setCell _ _ _ _ hp).trans h
theorem set (h : Blk w b t cs) (i : Nat) (u : Value) : Blk (w.setCell ⟨b, i, none⟩ u) b t (cs.set i u) := by
  unfold Blk at h ⊢
  have hlt := lt_of_block h
  have h' : w.heap[b] = .cells cs.toArray t (0, 0) := by simpa [Array.getElem?_eq_getElem hlt] using h
  show (w.heap.modify b _)[b]? = _
  rw [Array.getElem?_eq_getElem (by simpa using hlt), Array.getElem_modify_self, h']
  simp
theorem new (w : World) (l : List Value) (t : TypeId) : Blk (w.alloc (.cells l.toArray t)) w.heap.size t l := by
  show (w.heap.push _)[w.heap.size]? = _; simp
end Blk

/-- Words as cells. -/
def u64s (l : List Int) : List Value := l.map (Value.int .u64)
@[simp] theorem u64s_length (l : List Int) : (u64s l).length = l.length := by simp [u64s]
theorem u64s_get (l : List Int) (i : Nat) (h : i < l.length) : (u64s l)[i]? = some (.int .u64 (l.getD i 0)) := by
  simp [u64s, List.getElem?_eq_getElem h]
theorem u64s_set (l : List Int) (i : Nat) (x : Int) : (u64s l).set i (.int .u64 x) = u64s (l.set i x) := by simp [u64s, List.map_set]

/-- The slice v of n elements reads as the cells cs. -/
def RdS (w : World) (v : Value) (n : Nat) (cs : List Value) : Prop :=
  (n = 0 ∧ cs = [] ∧ ∃ a cap, v = .slice a 0 cap) ∨ ∃ b o cap, v = .slice (some ⟨b, o, none⟩) n cap ∧ b < w.heap.size ∧ ∀ j, j < cs.length → w.cell? ⟨b, o + j, none⟩ = cs[j]?

theorem RdS.kept {w w' : World} {v : Value} {n : Nat} {cs : List Value} {S : List Nat} (h : RdS w v n cs) (f : Fr S w w') (hb : ∀ b, v.ownBlock = some b → b ∉ S) : RdS w' v n cs := by
  rcases h with h | ⟨b, o, cap, rfl, hlt, hc⟩
  · exact .inl h
  · exact .inr ⟨b, o, cap, rfl, Nat.lt_of_lt_of_le hlt f.size, fun j hj => (f.cell hlt (hb b rfl)).trans (hc j hj)⟩
theorem RdS.kept0 {w w' : World} {v : Value} {n : Nat} {cs : List Value} (h : RdS w v n cs) (f : Fr [] w w') : RdS w' v n cs := h.kept f (by simp)
theorem RdS.alloc {w : World} {v : Value} {n : Nat} {cs : List Value} (h : RdS w v n cs) (o : Obj) : RdS (w.alloc o) v n cs := h.kept0 ((Fr.refl _ _).alloc _)
theorem RdS.drew {w : World} {v : Value} {n : Nat} {cs : List Value} (h : RdS w v n cs) : RdS w.drew v n cs := h.kept0 ((Fr.refl _ _).drew)
theorem RdS.other {w : World} {v : Value} {n : Nat} {cs : List Value} (h : RdS w v n cs) {p : Addr} (hp : v.ownBlock ≠ some p.block) (u : Value) : RdS (w.setCell p u) v n cs :=
  h.kept (S := [p.block]) ((Fr.refl _ _).setCell (by simp) _) (fun b hb m => hp (by simp at m; rw [← m]; exact hb))
theorem RdS.of_own {w : World} {base : Nat} {e : TypeId} {sz : Nat} {v : Value} {n : Nat} {cs : List Value} (h : w.ownsRow base e sz v n cs) : RdS w v n cs := by
  obtain ⟨hl, ⟨rfl, rfl⟩ | ⟨g, cap, cur, rfl, hbg, hg, hnc, hcm, hcs, ht⟩⟩ := h
  · exact .inl ⟨rfl, List.eq_nil_of_length_eq_zero (by simpa using hl), none, 0, rfl⟩
  · refine .inr ⟨g, 0, cap, rfl, lt_of_block hg, fun j hj => ?_⟩
    rw [Nat.zero_add, ← ht]
    have : j < n * sz := by rw [← hl]; exact hj
    simp [World.cell?, hg, List.getElem?_take, this]
/-- The slice's value; where it has an element, its cells. -/
theorem RdS.elim {w : World} {v : Value} {n : Nat} {cs : List Value} (h : RdS w v n cs) : ∃ a cap, v = .slice a n cap ∧ (0 < n → ∃ b o, a = some ⟨b, o, none⟩ ∧ b < w.heap.size ∧ ∀ j, j < cs.length → w.cell? ⟨b, o + j, none⟩ = cs[j]?) := by
  rcases h with ⟨rfl, rfl, a, cap, rfl⟩ | ⟨b, o, cap, rfl, hb, hc⟩
  · exact ⟨a, cap, rfl, fun h => absurd h (by omega)⟩
  · exact ⟨_, cap, rfl, fun _ => ⟨b, o, rfl, hb, hc⟩⟩
/-- A slice over a whole block. -/
theorem RdS.of_blk {w : World} {b : Nat} {t : TypeId} {cs : List Value} {n cap : Nat} (h : Blk w b t cs) : RdS w (.slice (some ⟨b, 0, none⟩) n cap) n cs :=
  .inr ⟨b, 0, cap, rfl, h.lt, fun j _ => by rw [Nat.zero_add]; exact h.cell j⟩
theorem Fr.grown {S : List Nat} {a w w' : World} {row : Option Nat} (h : Fr S a w) (hg : w.grownBy w' row) (hr : ∀ k, row = some k → k < a.heap.size → k ∈ S) : Fr S a w' :=
  ⟨hg.os.trans h.os, hg.tape.trans h.tape, hg.output.trans h.output, Nat.le_trans h.size hg.size, fun k hk hs => (hg.block k (Nat.lt_of_lt_of_le hk h.size) (fun e => hs (hr k e.symm hk))).trans (h.block k hk hs)⟩
/-- What an append or a make leaves. -/
theorem Fr.of_grown {w w' : World} {row : Option Nat} (h : w.grownBy w' row) (S : List Nat) (hr : ∀ k, row = some k → k < w.heap.size → k ∈ S) : Fr S w w' :=
  ⟨h.os, h.tape, h.output, h.size, fun k hk hs => h.block k hk (fun e => hs (hr k e.symm hk))⟩
theorem zeros_toArray (z y : Value) (n : Nat) (hz : z.cells = #[y]) : madeCells z.cells n = (List.replicate n y).toArray := by
  rw [hz]; apply Array.toList_inj.1; rw [toList_madeCells_one]

theorem blk_grown {w w' : World} {row : Option Nat} {b : Nat} {t : TypeId} {cs : List Value} (h : Blk w b t cs) (hg : w.grownBy w' row) (hn : row ≠ some b) : Blk w' b t cs := (hg.block b h.lt (fun e => hn e.symm)).trans h
theorem addr_add (b o j : Nat) : ((⟨b, o, none⟩ : Addr).add j) = ⟨b, o + j, none⟩ := by unfold Addr.add; split <;> simp_all
/-- The cells of a block that has just been made. -/
theorem news_new (w : World) (l : List Value) (T : TypeId) : ∀ j u, l[j]? = some u → (w.alloc (.cells l.toArray T)).cell? ((⟨w.heap.size, 0, none⟩ : Addr).add j) = some u := by
  intro j u hu
  rw [addr_add, Nat.zero_add]
  simpa [World.cell?_alloc_at _ _ _ _ rfl] using hu

end Go.Proofs.Ytnhnbgkhbhgifaa
