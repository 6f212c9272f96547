/- What the laws of mutators that go in and out share. -/
import Derived.Test.YtolkgdchinaonaaGateKP
import Derived.Test.YtolkgdchinaonaaMutsW
import Derived.Test.YtolkgdchinaonaaRdAt
import Derived.Test.YtolkgdchinaonaaPlace
import Derived.Test.YtolkgdchinaonaaHandNew
namespace Go.Proofs.Ytolkgdchinaonaa
open Go.RowKit
set_option linter.unusedVariables false
set_option linter.unusedSimpArgs false

theorem newK_go {k : Nat} (h0 : 1 ≤ k) (h1 : k ≤ 6) (W : World) : Calls Try.prog 38 #[.agg #[.int .i64 2, .int .i64 (k : Int), .int .i64 1, .int .i64 0]] W fun e w' => (∃ h ab db, e = .returned (.tuple #[.pointer (some ⟨h, 0, none⟩), .int .i64 0]) ∧ HAt w' h ab db ⟨⟨2, k, 1, 0⟩, firstW ⟨2, k, 1, 0⟩, Acc.z⟩ ∧ W.heap.size ≤ h ∧ W.heap.size ≤ ab ∧ W.heap.size ≤ db) ∧ Fr [] W w' :=
  new_ok (w := W) (c := ⟨2, k, 1, 0⟩) (by constructor <;> simp only <;> omega)
theorem in_k {k m : Nat} (h0 : 1 ≤ k) (h1 : k ≤ 6) (hm : m < k) (W : World) : Calls Try.prog 45 #[.agg #[.int .i64 2, .int .i64 (k : Int), .int .i64 1, .int .i64 0], .int .i64 (m : Int)] W fun e w' => e = .returned (.int .i64 (5 + (m : Int))) ∧ Fr [] W w' := by
  have h := in_any (c := ⟨2, k, 1, 0⟩) (by constructor <;> simp only <;> omega) (m : Int) W
  rw [inP_at hm] at h
  exact h
theorem Blk.atmv {w : World} {b : Nat} {t : TypeId} {A : List MutV} (h : Blk w b t (mutsCs A)) {m : Nat} {ln q : Int} (hx : A[m]? = some (mv ln q)) : w.cell? ⟨b, m * 13, none⟩ = some (.int .i64 ln) ∧ w.cell? ⟨b, m * 13 + 1, none⟩ = some (.int .i64 q) ∧ w.cell? ⟨b, m * 13 + 2, none⟩ = some (.int .i64 0) ∧ w.cell? ⟨b, m * 13 + 3, none⟩ = some (.int .i64 0) ∧ w.cell? ⟨b, m * 13 + 4, none⟩ = some (.int .i64 0) ∧ w.cell? ⟨b, m * 13 + 5, none⟩ = some (.int .u64 0) ∧ w.cell? ⟨b, m * 13 + 6, none⟩ = some (.int .u64 0) ∧ w.cell? ⟨b, m * 13 + 7, none⟩ = some (.int .u64 0) ∧ w.cell? ⟨b, m * 13 + 8, none⟩ = some (.int .u64 0) ∧ w.cell? ⟨b, m * 13 + 9, none⟩ = some (.int .u64 0) ∧ w.cell? ⟨b, m * 13 + 10, none⟩ = some (.int .u64 0) ∧ w.cell? ⟨b, m * 13 + 11, none⟩ = some (.int .i64 0) ∧ w.cell? ⟨b, m * 13 + 12, none⟩ = some (.int .i64 0) :=
  h.at13 hx
theorem rds_u8 {W : World} {ua : Option Addr} {n uc : Nat} {l : List Int} (h : RdS W (.slice ua n uc) n (l.map (Value.int .u8))) {j : Nat} (hj : j < l.length) (hwf : ∀ x, x ∈ l → 0 ≤ x ∧ x ≤ 255) : ∃ p : Int, (0 ≤ p ∧ p ≤ 255) ∧ ∀ lb lo, ua = some ⟨lb, lo, none⟩ → W.cell? ⟨lb, lo + j, none⟩ = some (.int .u8 p) := by
  refine ⟨l[j], hwf _ (List.getElem_mem hj), ?_⟩
  rintro lb lo rfl
  rcases h with ⟨h1, h2, _⟩ | ⟨b2, o2, cap2, e, _, hc⟩
  · have : (l.map (Value.int .u8)).length = 0 := by rw [h2]; rfl
    rw [List.length_map] at this; omega
  · cases e
    rw [hc j (by simpa using hj)]
    simp [hj]
def ints (l : List Int) : List Value := l.map (Value.int .i64)
theorem ints_at {w : World} {b : Nat} {t : TypeId} {l : List Int} (h : Blk w b t (ints l)) {m : Nat} {g : Int} (hg : l[m]? = some g) : w.cell? ⟨b, m, none⟩ = some (.int .i64 g) := by
  rw [h.cell m]; simp [ints, hg]
theorem ints_set {w : World} {b : Nat} {t : TypeId} {l : List Int} (h : Blk w b t (ints l)) (m : Nat) (g : Int) : Blk (w.setCell ⟨b, m, none⟩ (.int .i64 g)) b t (ints (l.set m g)) := by
  have e : ints (l.set m g) = (ints l).set m (.int .i64 g) := by simp [ints, List.map_set]
  rw [e]
  exact h.set m _
end Go.Proofs.Ytolkgdchinaonaa
