/- A slice of mutators, as it was read. -/
import Derived.Test.YtolkgdchinaonaaMutWf
namespace Go.Proofs.Ytolkgdchinaonaa
open Go.ChangeShapes Go.WideShapes Go.ChangeAt Go.RowKit

/-- The mutators of a slice. -/
def MutsAt (w : World) (v : Value) (l : List MutV) : Prop := ∃ a cap, v = .slice a l.length cap ∧ (0 < l.length → ∃ b o, a = some ⟨b, o, none⟩ ∧ b < w.heap.size ∧ ∀ k x, l[k]? = some x → x.Wf ∧ ∀ j, j < 13 → w.cell? ⟨b, o + k * 13 + j, none⟩ = x.cells[j]?)
theorem MutsAt.kept0 {w w' : World} {v : Value} {l : List MutV} (h : MutsAt w v l) (f : Fr [] w w') : MutsAt w' v l := by
  obtain ⟨a, cap, e, h⟩ := h
  refine ⟨a, cap, e, fun h0 => ?_⟩
  obtain ⟨b, o, e2, hb, hc⟩ := h h0
  exact ⟨b, o, e2, Nat.lt_of_lt_of_le hb f.size, fun k x hx => ⟨(hc k x hx).1, fun j hj => (f.cell hb (by simp)).trans ((hc k x hx).2 j hj)⟩⟩

def mutOf (r : List Int) : MutV := ⟨r.getD 0 0, r.getD 1 0, r.getD 2 0, r.getD 3 0, r.getD 4 0, r.getD 5 0, r.getD 6 0, r.getD 7 0, r.getD 8 0, r.getD 9 0, r.getD 10 0, r.getD 11 0, r.getD 12 0⟩
theorem flat_muts {H : Type} {enc : TypeId × Value → H} {P : Program} {w : World} {n : Nat} {t e : TypeId} {v : Value} {d : DataW H} {ps : List MemPlace} (ht : P.underlying t = some (.slice e)) (hk : flatK P n e = some [.i64, .i64, .i64, .i64, .i64, .u64, .u64, .u64, .u64, .u64, .u64, .i64, .i64]) (hc : P.cellsOf e = 13)
    (hv : ∃ a len cap, v = .slice a len cap) (h : DataW.Trod enc P w 0 (fun _ => true) true t v d ps) : ∃ l, MutsAt w v l := by
  obtain ⟨len, rows, hl, hm, hr, _⟩ := flat_row ht hk hc (by simp) hv h
  refine ⟨rows.map mutOf, ?_⟩
  obtain ⟨a, cap, rfl, hcell⟩ := hr.elim
  refine ⟨a, cap, by rw [List.length_map, hl], fun h0 => ?_⟩
  obtain ⟨b, o, rfl, hb, hcs⟩ := hcell (by rw [List.length_map] at h0; omega)
  refine ⟨b, o, rfl, hb, fun k x hx => ?_⟩
  rw [List.getElem?_map] at hx
  obtain ⟨r, hr, rfl⟩ := Option.map_eq_some_iff.1 hx
  have hk : k < rows.length := by
    rcases Nat.lt_or_ge k rows.length with h | h
    · exact h
    · rw [List.getElem?_eq_none h] at hr; cases hr
  have hmem := hm r (List.mem_of_getElem? hr)
  have hlen := flatZip_length rows (fun r hr => (hm r hr).1)
  simp only [List.length_cons, List.length_nil] at hlen
  have hget := fun (j : Nat) (hj : j < 13) => (hcs (k * 13 + j) (by rw [hlen]; omega)).trans (flatZip_get rows (fun r hr => (hm r hr).1) k j r hr (by simpa using hj))
  match r, hmem with
  | [line, ok, oa, ob, oc, a, b, c, n, t, p, back, ret], ⟨_, hw⟩ =>
    refine ⟨MutV.wf_of hw, fun j hj => ?_⟩
    rw [Nat.add_assoc, hget j hj]
    have : j = 0 ∨ j = 1 ∨ j = 2 ∨ j = 3 ∨ j = 4 ∨ j = 5 ∨ j = 6 ∨ j = 7 ∨ j = 8 ∨ j = 9 ∨ j = 10 ∨ j = 11 ∨ j = 12 := by omega
    rcases this with rfl | rfl | rfl | rfl | rfl | rfl | rfl | rfl | rfl | rfl | rfl | rfl | rfl <;> rfl

end Go.Proofs.Ytolkgdchinaonaa
