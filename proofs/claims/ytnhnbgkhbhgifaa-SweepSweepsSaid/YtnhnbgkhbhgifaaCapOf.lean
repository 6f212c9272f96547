/- A slice argument's length is within its capacity. -/
import Derived.Test.YtnhnbgkhbhgifaaFlat
namespace Go.Proofs.Ytnhnbgkhbhgifaa
open Go.ChangeShapes Go.WideShapes Go.ChangeAt Go.RowKit

theorem trod_cap {H : Type} {enc : TypeId × Value → H} {P : Program} {w : World} {t e : TypeId} {v : Value} {d : DataW H} {ps : List MemPlace} (ht : P.underlying t = some (.slice e)) (hv : ∃ a len cap, v = .slice a len cap)
    (h : DataW.Trod enc P w 0 (fun _ => true) true t v d ps) : ∀ a n cap, v = .slice a n cap → n ≤ cap := by
  obtain ⟨a, l, c, rfl⟩ := hv
  obtain ⟨fuel, hf⟩ := h
  rcases DataW.trod_slice ht hf with ⟨hcs, hx⟩ | ⟨a', len, cap, elems, rest, m, _, hcs, hx, hb, hl, hm, hel, hat, _, _⟩
  · simp [Value.cells] at hcs
    obtain ⟨rfl, rfl, rfl⟩ := hcs
    intro a n cap e
    cases e
    omega
  · simp [Value.cells] at hcs
    obtain ⟨rfl, rfl, rfl⟩ := hcs
    intro a n cap e
    cases e
    omega

end Go.Proofs.Ytnhnbgkhbhgifaa
