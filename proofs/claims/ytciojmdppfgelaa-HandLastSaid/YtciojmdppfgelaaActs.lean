/- A slice of acts (mudlarklaw07.Act), as it was read. -/
import Derived.Test.YtciojmdppfgelaaFlat
namespace Go.Proofs.Ytciojmdppfgelaa
open Go.ChangeShapes Go.WideShapes Go.ChangeAt Go.RowKit

structure ActV where
  kind : Int
  at_ : Int
  x : Int
  y : Int

/-- The acts of a slice: n of them; act k lies at these cells. -/
def ActsAt (w : World) (v : Value) (n : Nat) : Prop := ∃ a cap, v = .slice a n cap ∧ (0 < n → ∃ b o, a = some ⟨b, o, none⟩ ∧ b < w.heap.size ∧ ∀ k, k < n → ∃ t : ActV, w.cell? ⟨b, o + k * 4, none⟩ = some (.int .i64 t.kind) ∧ w.cell? ⟨b, o + k * 4 + 1, none⟩ = some (.int .i64 t.at_) ∧ w.cell? ⟨b, o + k * 4 + 2, none⟩ = some (.int .u64 t.x) ∧ w.cell? ⟨b, o + k * 4 + 3, none⟩ = some (.int .u64 t.y) ∧ (0 ≤ t.x ∧ t.x < 18446744073709551616) ∧ (0 ≤ t.y ∧ t.y < 18446744073709551616) ∧ -9223372036854775808 ≤ t.at_ ∧ t.at_ ≤ 9223372036854775807)

theorem flat_acts {H : Type} {enc : TypeId × Value → H} {P : Program} {w : World} {n : Nat} {t e : TypeId} {v : Value} {d : DataW H} {ps : List MemPlace} (ht : P.underlying t = some (.slice e)) (hk : flatK P n e = some [.i64, .i64, .u64, .u64]) (hc : P.cellsOf e = 4)
    (hv : ∃ a len cap, v = .slice a len cap) (h : DataW.Trod enc P w 0 (fun _ => true) true t v d ps) : ∃ len, ActsAt w v len := by
  obtain ⟨len, rows, hl, hm, hr, _⟩ := flat_row ht hk hc (by simp) hv h
  refine ⟨len, ?_⟩
  obtain ⟨a, cap, rfl, hcell⟩ := hr.elim
  refine ⟨a, cap, rfl, fun h0 => ?_⟩
  obtain ⟨b, o, rfl, hb, hcs⟩ := hcell h0
  refine ⟨b, o, rfl, hb, fun k hk => ?_⟩
  obtain ⟨r, hr⟩ : ∃ r, rows[k]? = some r := ⟨_, List.getElem?_eq_getElem (by omega)⟩
  have hmem := hm r (List.mem_of_getElem? hr)
  have hlen := flatZip_length rows (fun r hr => (hm r hr).1)
  simp only [List.length_cons, List.length_nil] at hlen
  have hget := fun (j : Nat) (hj : j < 4) => (hcs (k * 4 + j) (by rw [hlen]; omega)).trans (flatZip_get rows (fun r hr => (hm r hr).1) k j r hr (by simpa using hj))
  match r, hmem with
  | [kd, ap, x, y], ⟨_, hw⟩ =>
    have b1 := bounds_i64 (hw 1 _ _ rfl rfl)
    have b2 := bounds_u64 (hw 2 _ _ rfl rfl)
    have b3 := bounds_u64 (hw 3 _ _ rfl rfl)
    exact ⟨⟨kd, ap, x, y⟩, hget 0 (by omega), by rw [Nat.add_assoc]; exact hget 1 (by omega), by rw [Nat.add_assoc]; exact hget 2 (by omega), by rw [Nat.add_assoc]; exact hget 3 (by omega), ⟨b2.1, by simp only; omega⟩, ⟨b3.1, by simp only; omega⟩, b1.1, b1.2⟩

end Go.Proofs.Ytciojmdppfgelaa
