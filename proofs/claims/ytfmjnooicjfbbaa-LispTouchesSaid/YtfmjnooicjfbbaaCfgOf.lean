/- An argument that is a config. -/
import Derived.Test.YtfmjnooicjfbbaaFlat
import Derived.Test.YtfmjnooicjfbbaaConfig
namespace Go.Proofs.Ytfmjnooicjfbbaa
open Go.ChangeShapes Go.WideShapes Go.ChangeAt Go.RowKit

theorem okAll_cfg {H : Type} {enc : TypeId × Value → H} {P : Program} {w : World} {b0 n : Nat} {t : TypeId} {fs : Array Field} {v : Value} {d : DataW H} {ps : List MemPlace} {ts : Array TypeId} {args : Array Value} (hv : OkAll P w b0 ts args) (j : Nat) (e1 : ts[j]? = some t) (e2 : args[j]? = some v)
    (hs : P.underlying t = some (.struct fs)) (hk : flatK P n t = some [.i64, .i64, .i64, .i64]) (h : DataW.Trod enc P w 0 (fun _ => true) true t v d ps) : ∃ c : Cfg, v = c.val := by
  obtain ⟨ns, rfl, hl, _⟩ := okAll_agg hv j e1 e2 hs hk h
  match ns, hl with
  | [a, b, c, d], _ => exact ⟨⟨a, b, c, d⟩, rfl⟩

end Go.Proofs.Ytfmjnooicjfbbaa
