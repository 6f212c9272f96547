/- rounds.Clock. -/
import Derived.Test.YtciojmdppfgelaaMapI
import Derived.Test.YtciojmdppfgelaaProg
namespace Go.Proofs.Ytciojmdppfgelaa
open Go.RowKit
set_option linter.unusedVariables false
set_option linter.unusedSimpArgs false

theorem run_mclear_all {P : Program} {t kt et : TypeId} (ht : P.underlying t = some (.map kt et)) {w : World} {r : Nat} {es : List (Int × Value)} (h : MapAt w r es) :
    ∃ w', (∀ ty, (Builtin.clear_ #[t] ty #[.map (some r)]).run P w = .ok (.tuple #[]) w') ∧ MapAt w' r [] ∧ Fr [r] w w' := by
  have hlt := h.lt
  obtain ⟨arr, clk, h1, h2⟩ := h
  refine ⟨{ w with heap := w.heap.setIfInBounds r (.map #[] clk) }, fun ty => ?_, MapAt.put hlt (by simp)⟩
  simp [Builtin.clear_, run_underlying ht, MapKept.run_getObj_map h1, MapKept.run_setObj_map _ h1, Result.andThen]

structure Clk where
  procs : Int
  named : List Int
  n : Int

def kput (l : List Int) (k : Int) : List Int := if k ∈ l then l else l ++ [k]
def kents (l : List Int) : List (Int × Value) := l.map fun k => (k, .bool true)
theorem mput_kents (l : List Int) (k : Int) : mput (kents l) k (.bool true) = kents (kput l k) := by
  induction l with
  | nil => rfl
  | cons a l ih =>
    unfold kput at ih ⊢
    simp only [kents, List.map_cons, mput]
    by_cases h : a = k
    · subst h; simp
    · rw [if_neg h]
      have e : (k ∈ a :: l) ↔ k ∈ l := by simp [Ne.symm h]
      simp only [e]
      simp only [kents] at ih
      rw [ih]
      split <;> simp
theorem kents_length (l : List Int) : (kents l).length = l.length := by simp [kents]

structure KAt (w : World) (k m : Nat) (c : Clk) : Prop where
  blk : Blk w k 109 [.int .i64 c.procs, .map (some m), .int .i64 c.n]
  map : MapAt w m (kents c.named)
  ne : k ≠ m

namespace KAt
variable {w w' : World} {k m : Nat} {c : Clk}
theorem kept {S : List Nat} (h : KAt w k m c) (f : Fr S w w') (h1 : k ∉ S) (h2 : m ∉ S) : KAt w' k m c := ⟨h.blk.kept f h1, h.map.kept f h2, h.ne⟩
theorem kept0 (h : KAt w k m c) (f : Fr [] w w') : KAt w' k m c := h.kept f (by simp) (by simp)
theorem alloc (h : KAt w k m c) (o : Obj) : KAt (w.alloc o) k m c := ⟨h.blk.alloc o, h.map.alloc o, h.ne⟩
theorem drew (h : KAt w k m c) : KAt w.drew k m c := ⟨h.blk, h.map, h.ne⟩
theorem drewN (h : KAt w k m c) (n : Nat) : KAt (w.drewN n) k m c := ⟨h.blk, h.map, h.ne⟩
theorem other (h : KAt w k m c) {p : Addr} (h1 : k ≠ p.block) (h2 : m ≠ p.block) (u : Value) : KAt (w.setCell p u) k m c := ⟨h.blk.other h1 u, h.map.other h2 u, h.ne⟩
end KAt

def Clk.new (p : Int) : Clk := ⟨max 0 (min p 200), [], 0⟩
def Clk.tick (c : Clk) (p : Int) : Clk := if p < 0 ∨ c.procs ≤ p then c else if ((kput c.named p).length : Int) < c.procs then ⟨c.procs, kput c.named p, c.n⟩ else ⟨c.procs, [], c.n + 1⟩
def Clk.over (c : Clk) (p : Int) : Bool := if p < 0 ∨ c.procs ≤ p then false else if ((kput c.named p).length : Int) < c.procs then false else true

theorem knew_any (p : Int) (w : World) :
    Calls Try.prog 16 #[.int .i64 p] w fun e w' => e = .returned (.pointer (some ⟨w.heap.size + 1, 0, none⟩)) ∧ KAt w' (w.heap.size + 1) w.heap.size (Clk.new p) ∧ Fr [] w w' := by
  have hmk := fun W => run_makeMap (P := Try.prog) 107 W
  have hk : ∀ q : Int, q = max 0 (min p 200) → KAt ((w.alloc (.map #[] 0)).alloc (.cells #[.int .i64 q, .map (some w.heap.size), .int .i64 0] 109)) (w.heap.size + 1) w.heap.size (Clk.new p) := by
    intro q hq
    subst hq
    refine ⟨?_, (MapAt.made w).alloc _, by omega⟩
    have := Blk.new (w.alloc (.map #[] 0)) [.int .i64 (max 0 (min p 200)), .map (some w.heap.size), .int .i64 0] 109
    rw [World.size_alloc] at this
    exact this
  have hk := hid hk
  go_enter Try.func16, Try.ntmps16
  go_wp2
  all_goals (go_ret; refine ⟨by simp, hk.out _ (by omega), ((Fr.refl _ _).alloc _).alloc _⟩)

theorem krounds_any {w : World} {k m : Nat} {c : Clk} (h : KAt w k m c) :
    Calls Try.prog 17 #[.pointer (some ⟨k, 0, none⟩)] w fun e w' => e = .returned (.int .i64 c.n) ∧ w = w' := by
  have kB := h.blk.cell
  go_enter Try.func17, Try.ntmps17
  go_wp2
  go_ret
  exact ⟨rfl, rfl⟩

theorem krounds_nil (w : World) :
    Calls Try.prog 17 #[.pointer none] w fun e w' => e = .returned (.int .i64 0) ∧ w = w' := by
  go_enter Try.func17, Try.ntmps17
  go_wp2
  go_ret
  exact ⟨rfl, rfl⟩

theorem ktick_nil (p : Int) (w : World) :
    Calls Try.prog 18 #[.pointer none, .int .i64 p] w fun e w' => e = .returned (.bool false) ∧ w = w' := by
  go_enter Try.func18, Try.ntmps18
  go_wp2
  go_ret
  exact ⟨rfl, rfl⟩

theorem ktick_any {w : World} {k m : Nat} {c : Clk} (h : KAt w k m c) (p : Int) (hn : 0 ≤ c.n ∧ c.n < 1000000) :
    Calls Try.prog 18 #[.pointer (some ⟨k, 0, none⟩), .int .i64 p] w fun e w' => e = .returned (.bool (c.over p)) ∧ KAt w' k m (c.tick p) ∧ Fr [k, m] w w' := by
  have H0 := h
  obtain ⟨procs, named, n⟩ := c
  obtain ⟨hB, hM, hne⟩ := h
  simp only at hB hM hn
  have kB := hB.cell
  have fB := hB.free
  unfold Clk.over Clk.tick
  by_cases h1 : p < 0
  · rw [if_pos (.inl h1), if_pos (.inl h1)]
    go_enter Try.func18, Try.ntmps18
    go_wp2
    go_ret
    exact ⟨rfl, H0, Fr.refl _ _⟩
  by_cases h2 : procs ≤ p
  · rw [if_pos (.inr h2), if_pos (.inr h2)]
    go_enter Try.func18, Try.ntmps18
    go_wp2
    go_ret
    exact ⟨rfl, H0, Fr.refl _ _⟩
  have hno : ¬ (p < 0 ∨ procs ≤ p) := by omega
  rw [if_neg hno, if_neg hno]
  obtain ⟨w1, hr, hM1, hF1⟩ := run_put Try.underlying107 Try.underlying3 hM p (.bool true)
  rw [mput_kents] at hM1
  have hl := fun (n : Nat) ty => run_mlen Try.underlying107 ty (show MapAt (w1.drewN n) m (kents (kput named p)) from hM1)
  simp only [kents_length] at hl
  have hB1 := hB.kept hF1 (by simpa using hne)
  have kB1 := hB1.cell
  have fB1 := hB1.free
  by_cases h3 : ((kput named p).length : Int) < procs
  · rw [if_pos h3, if_pos h3]
    have hq : decide (((kput named p).length : Int) < procs) = true := by simpa using h3
    go_enter Try.func18, Try.ntmps18
    go_wp2
    go_quiet (fail)
    go_wp2
    go_ret
    exact ⟨rfl, (KAt.mk (c := ⟨procs, kput named p, n⟩) hB1 hM1 hne).drewN _, (hF1.mono (by simp)).drewN _⟩
  · rw [if_neg h3, if_neg h3]
    have hq : decide (((kput named p).length : Int) < procs) = false := by simpa using h3
    go_enter Try.func18, Try.ntmps18
    go_wp2
    go_quiet (fail)
    have hM1 : MapAt (w1.drewN nq) m (kents (kput named p)) := hM1
    have hB1 := hB1.drewN nq
    have hF1 := hF1.drewN nq
    obtain ⟨w2, hc2, hM2, hF2⟩ := run_mclear_all Try.underlying107 hM1
    have hB2 := hB1.kept hF2 (by simpa using hne)
    have kB2 := hB2.cell
    have fB2 := hB2.free
    have kB1 := hB1.cell
    clear hl hr
    go_wp2
    go_ret
    refine ⟨rfl, ⟨hB2.set 2 _, hM2.other (by simpa using Ne.symm hne) _, hne⟩, ?_⟩
    exact ((hF1.mono (by simp)).trans (hF2.mono (by simp))).setCell (by simp) _

theorem kset_nil (w : World) :
    Calls Try.prog 19 #[.pointer none] w fun e w' => e = .returned (.tuple #[]) ∧ w = w' := by
  go_enter Try.func19, Try.ntmps19
  go_wp2
  go_end0
  exact ⟨rfl, rfl⟩

theorem kset_any {w : World} {k m : Nat} {c : Clk} (h : KAt w k m c) :
    Calls Try.prog 19 #[.pointer (some ⟨k, 0, none⟩)] w fun e w' => e = .returned (.tuple #[]) ∧ KAt w' k m ⟨c.procs, [], 0⟩ ∧ Fr [k, m] w w' := by
  obtain ⟨procs, named, n⟩ := c
  obtain ⟨hB, hM, hne⟩ := h
  simp only at hB hM
  have kB := hB.cell
  have fB := hB.free
  obtain ⟨w2, hc2, hM2, hF2⟩ := run_mclear_all Try.underlying107 hM
  have hB2 := hB.kept hF2 (by simpa using hne)
  have kB2 := hB2.cell
  have fB2 := hB2.free
  go_enter Try.func19, Try.ntmps19
  go_wp2
  go_end0
  refine ⟨rfl, ⟨hB2.set 2 _, hM2.other (by simpa using Ne.symm hne) _, hne⟩, ?_⟩
  exact (hF2.mono (by simp)).setCell (by simp) _

end Go.Proofs.Ytciojmdppfgelaa
