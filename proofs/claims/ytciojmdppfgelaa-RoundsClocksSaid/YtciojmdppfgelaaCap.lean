/- A slice that was read has room for its elements. -/
import Derived.Test.YtciojmdppfgelaaFlat
namespace Go.Proofs.Ytciojmdppfgelaa
open Go.ChangeShapes Go.WideShapes Go.ChangeAt Go.RowKit

theorem flat_cap {H : Type} {enc : TypeId × Value → H} {P : Program} {w : World} {t e : TypeId} {v : Value} {d : DataW H} {ps : List MemPlace} (ht : P.underlying t = some (.slice e))
    (h : DataW.Trod enc P w 0 (fun _ => true) true t v d ps) {a : Option Addr} {l c : Nat} (hv : v = .slice a l c) : l ≤ c := by
  subst hv
  obtain ⟨fuel, hf⟩ := h
  rcases DataW.trod_slice ht hf with ⟨hcs, _⟩ | ⟨a', len, cap, elems, rest, m, _, hcs, hx, hb, hl, hm, _⟩
  · simp [Value.cells] at hcs
    omega
  · simp [Value.cells] at hcs
    omega

end Go.Proofs.Ytciojmdppfgelaa
