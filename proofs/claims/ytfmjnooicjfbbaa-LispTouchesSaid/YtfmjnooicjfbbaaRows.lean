/-
  No cell of these rows narrows 'for every input' (looked for: loops, veiled, ifaces, maps, wideKeys, modest, calm, conditions, laid).
  DERIVED. THE GIVEN ROWS OF THIS SEAT. 12 by the template 'for every input the law returns true; each argument reads behind the call as it read before'; 0 by the template 'total and deterministic' (their statements: YtfmjnooicjfbbaaTotals.lean).
  GIVEN WITH THE SEED: the statements are not yours to turn. If you find one false, say at which input.
  Laid BY PROGRAM, IN A SANDBOX (cutbox-rows.mjs): the forced cells as the released guide's own fill.sh prints them over the translation ed1ecb1a3ba4b452… (all of the seat's roots in one cut). By AI agents, Wed Nov 11 2026. No macro, syntax, notation, axiom, sorry.
-/
import Derived.Test.YtfmjnooicjfbbaaChecked
import GoSem.Claim
import GoSem.ClaimJoined
import GoSem.ClaimMapViews
import Derived.JoinedTies
import Derived.KernelRfl
namespace Go.Proofs.Ytfmjnooicjfbbaa
/- THE CELL 'sum', in the pinned program and in every row, IS THE sha256 OF THE DUMP (.gsa) THAT YtfmjnooicjfbbaaProg.lean LOADS. Nothing in Lean hashes anything: it is a label: what it is worth is what the hold of that sum in a sandbox is worth. -/
noncomputable def Try.pinned : Pinned := { name := "ytfmjnooicjfbbaa", sum := "ed1ecb1a3ba4b45218765f27bbe411052de9919be57ad82f50a005ee3ccd5440", checked := Try.checked }
namespace Rows
def none {H : Type} : Left H := { results := [], args := [] }

/-- 'mudlarklaw31.ReplayGoes': WHATEVER THE INPUT: true; the input reads as it did. -/
def replayGoesSpec : ChangeSpec := { name := "replayGoes", fn := fun _ => fun
  | [d1, d2] => { results := [.lit (.bool true)], args := [d1, d2] }
  | _ => none }
def replayGoesRow : OpenClaim := { program := "ytfmjnooicjfbbaa", sum := "ed1ecb1a3ba4b45218765f27bbe411052de9919be57ad82f50a005ee3ccd5440", func := "mudlark/mudlarklaw31.ReplayGoes", spec := "replayGoes", inPlace := ["sync/atomic.StoreUint64", "sync/atomic.LoadUint64", "sync/atomic.CompareAndSwapUint64", "sync/atomic.AddUint64"], unfollowed := true, recurses := true, apart := false }
def ReplayGoesSaid : Prop := replayGoesRow.holds Try.pinned (OpenSpec.ofChange replayGoesSpec)

/-- ITS FALSE NEIGHBOUR: 'it returns false'. Refute it at one input. -/
def replayGoesWrong : ChangeSpec := { name := "replayGoes", fn := fun _ => fun
  | [d1, d2] => { results := [.lit (.bool false)], args := [d1, d2] }
  | _ => none }
def ReplayGoesWrongFalsely : Prop := replayGoesRow.holds Try.pinned (OpenSpec.ofChange replayGoesWrong)

/-- 'mudlarklaw31.ReplayPlaces': WHATEVER THE INPUT: true; the input reads as it did. -/
def replayPlacesSpec : ChangeSpec := { name := "replayPlaces", fn := fun _ => fun
  | [d1, d2] => { results := [.lit (.bool true)], args := [d1, d2] }
  | _ => none }
def replayPlacesRow : OpenClaim := { program := "ytfmjnooicjfbbaa", sum := "ed1ecb1a3ba4b45218765f27bbe411052de9919be57ad82f50a005ee3ccd5440", func := "mudlark/mudlarklaw31.ReplayPlaces", spec := "replayPlaces", inPlace := ["sync/atomic.StoreUint64", "sync/atomic.LoadUint64", "sync/atomic.CompareAndSwapUint64", "sync/atomic.AddUint64"], unfollowed := true, recurses := true, apart := false }
def ReplayPlacesSaid : Prop := replayPlacesRow.holds Try.pinned (OpenSpec.ofChange replayPlacesSpec)

/-- ITS FALSE NEIGHBOUR: 'it returns false'. Refute it at one input. -/
def replayPlacesWrong : ChangeSpec := { name := "replayPlaces", fn := fun _ => fun
  | [d1, d2] => { results := [.lit (.bool false)], args := [d1, d2] }
  | _ => none }
def ReplayPlacesWrongFalsely : Prop := replayPlacesRow.holds Try.pinned (OpenSpec.ofChange replayPlacesWrong)

/-- 'mudlarklaw11.TicketQueue': WHATEVER THE INPUT: true; the input reads as it did. -/
def ticketQueueSpec : ChangeSpec := { name := "ticketQueue", fn := fun _ => fun
  | [d1, d2, d3] => { results := [.lit (.bool true)], args := [d1, d2, d3] }
  | _ => none }
def ticketQueueRow : OpenClaim := { program := "ytfmjnooicjfbbaa", sum := "ed1ecb1a3ba4b45218765f27bbe411052de9919be57ad82f50a005ee3ccd5440", func := "mudlark/mudlarklaw11.TicketQueue", spec := "ticketQueue", inPlace := ["sync/atomic.StoreUint64", "sync/atomic.LoadUint64", "sync/atomic.CompareAndSwapUint64", "sync/atomic.AddUint64"], unfollowed := true, recurses := true, apart := false }
def TicketQueueSaid : Prop := ticketQueueRow.holds Try.pinned (OpenSpec.ofChange ticketQueueSpec)

/-- ITS FALSE NEIGHBOUR: 'it returns false'. Refute it at one input. -/
def ticketQueueWrong : ChangeSpec := { name := "ticketQueue", fn := fun _ => fun
  | [d1, d2, d3] => { results := [.lit (.bool false)], args := [d1, d2, d3] }
  | _ => none }
def TicketQueueWrongFalsely : Prop := ticketQueueRow.holds Try.pinned (OpenSpec.ofChange ticketQueueWrong)

/-- 'mudlarklaw12.GateKeeps': WHATEVER THE INPUT: true; the input reads as it did. -/
def gateKeepsSpec : ChangeSpec := { name := "gateKeeps", fn := fun _ => fun
  | [d1, d2] => { results := [.lit (.bool true)], args := [d1, d2] }
  | _ => none }
def gateKeepsRow : OpenClaim := { program := "ytfmjnooicjfbbaa", sum := "ed1ecb1a3ba4b45218765f27bbe411052de9919be57ad82f50a005ee3ccd5440", func := "mudlark/mudlarklaw12.GateKeeps", spec := "gateKeeps", inPlace := ["sync/atomic.StoreUint64", "sync/atomic.LoadUint64", "sync/atomic.CompareAndSwapUint64", "sync/atomic.AddUint64"], unfollowed := true, recurses := true, apart := false }
def GateKeepsSaid : Prop := gateKeepsRow.holds Try.pinned (OpenSpec.ofChange gateKeepsSpec)

/-- ITS FALSE NEIGHBOUR: 'it returns false'. Refute it at one input. -/
def gateKeepsWrong : ChangeSpec := { name := "gateKeeps", fn := fun _ => fun
  | [d1, d2] => { results := [.lit (.bool false)], args := [d1, d2] }
  | _ => none }
def GateKeepsWrongFalsely : Prop := gateKeepsRow.holds Try.pinned (OpenSpec.ofChange gateKeepsWrong)

/-- 'mudlarklaw12.GateGrows': WHATEVER THE INPUT: true; the input reads as it did. -/
def gateGrowsSpec : ChangeSpec := { name := "gateGrows", fn := fun _ => fun
  | [d1, d2] => { results := [.lit (.bool true)], args := [d1, d2] }
  | _ => none }
def gateGrowsRow : OpenClaim := { program := "ytfmjnooicjfbbaa", sum := "ed1ecb1a3ba4b45218765f27bbe411052de9919be57ad82f50a005ee3ccd5440", func := "mudlark/mudlarklaw12.GateGrows", spec := "gateGrows", inPlace := ["sync/atomic.StoreUint64", "sync/atomic.LoadUint64", "sync/atomic.CompareAndSwapUint64", "sync/atomic.AddUint64"], unfollowed := true, recurses := true, apart := false }
def GateGrowsSaid : Prop := gateGrowsRow.holds Try.pinned (OpenSpec.ofChange gateGrowsSpec)

/-- ITS FALSE NEIGHBOUR: 'it returns false'. Refute it at one input. -/
def gateGrowsWrong : ChangeSpec := { name := "gateGrows", fn := fun _ => fun
  | [d1, d2] => { results := [.lit (.bool false)], args := [d1, d2] }
  | _ => none }
def GateGrowsWrongFalsely : Prop := gateGrowsRow.holds Try.pinned (OpenSpec.ofChange gateGrowsWrong)

/-- 'mudlarklaw18.SweepSweeps': WHATEVER THE INPUT: true; the input reads as it did. -/
def sweepSweepsSpec : ChangeSpec := { name := "sweepSweeps", fn := fun _ => fun
  | [d1, d2] => { results := [.lit (.bool true)], args := [d1, d2] }
  | _ => none }
def sweepSweepsRow : OpenClaim := { program := "ytfmjnooicjfbbaa", sum := "ed1ecb1a3ba4b45218765f27bbe411052de9919be57ad82f50a005ee3ccd5440", func := "mudlark/mudlarklaw18.SweepSweeps", spec := "sweepSweeps", inPlace := ["sync/atomic.StoreUint64", "sync/atomic.LoadUint64", "sync/atomic.CompareAndSwapUint64", "sync/atomic.AddUint64"], apart := false }
def SweepSweepsSaid : Prop := sweepSweepsRow.holds Try.pinned (OpenSpec.ofChange sweepSweepsSpec)

/-- ITS FALSE NEIGHBOUR: 'it returns false'. Refute it at one input. -/
def sweepSweepsWrong : ChangeSpec := { name := "sweepSweeps", fn := fun _ => fun
  | [d1, d2] => { results := [.lit (.bool false)], args := [d1, d2] }
  | _ => none }
def SweepSweepsWrongFalsely : Prop := sweepSweepsRow.holds Try.pinned (OpenSpec.ofChange sweepSweepsWrong)

/-- 'mudlarklaw17.BarKeeps': WHATEVER THE INPUT: true; the input reads as it did. -/
def barKeepsSpec : ChangeSpec := { name := "barKeeps", fn := fun _ => fun
  | [d1, d2, d3] => { results := [.lit (.bool true)], args := [d1, d2, d3] }
  | _ => none }
def barKeepsRow : OpenClaim := { program := "ytfmjnooicjfbbaa", sum := "ed1ecb1a3ba4b45218765f27bbe411052de9919be57ad82f50a005ee3ccd5440", func := "mudlark/mudlarklaw17.BarKeeps", spec := "barKeeps", inPlace := ["sync/atomic.StoreUint64", "sync/atomic.LoadUint64", "sync/atomic.CompareAndSwapUint64", "sync/atomic.AddUint64"], unfollowed := true, recurses := true, apart := false }
def BarKeepsSaid : Prop := barKeepsRow.holds Try.pinned (OpenSpec.ofChange barKeepsSpec)

/-- ITS FALSE NEIGHBOUR: 'it returns false'. Refute it at one input. -/
def barKeepsWrong : ChangeSpec := { name := "barKeeps", fn := fun _ => fun
  | [d1, d2, d3] => { results := [.lit (.bool false)], args := [d1, d2, d3] }
  | _ => none }
def BarKeepsWrongFalsely : Prop := barKeepsRow.holds Try.pinned (OpenSpec.ofChange barKeepsWrong)

/-- 'mudlarklaw17.BarOpens': WHATEVER THE INPUT: true; the input reads as it did. -/
def barOpensSpec : ChangeSpec := { name := "barOpens", fn := fun _ => fun
  | [d1, d2] => { results := [.lit (.bool true)], args := [d1, d2] }
  | _ => none }
def barOpensRow : OpenClaim := { program := "ytfmjnooicjfbbaa", sum := "ed1ecb1a3ba4b45218765f27bbe411052de9919be57ad82f50a005ee3ccd5440", func := "mudlark/mudlarklaw17.BarOpens", spec := "barOpens", inPlace := ["sync/atomic.StoreUint64", "sync/atomic.LoadUint64", "sync/atomic.CompareAndSwapUint64", "sync/atomic.AddUint64"], unfollowed := true, recurses := true, apart := false }
def BarOpensSaid : Prop := barOpensRow.holds Try.pinned (OpenSpec.ofChange barOpensSpec)

/-- ITS FALSE NEIGHBOUR: 'it returns false'. Refute it at one input. -/
def barOpensWrong : ChangeSpec := { name := "barOpens", fn := fun _ => fun
  | [d1, d2] => { results := [.lit (.bool false)], args := [d1, d2] }
  | _ => none }
def BarOpensWrongFalsely : Prop := barOpensRow.holds Try.pinned (OpenSpec.ofChange barOpensWrong)

/-- 'mudlarklaw16.PassMarks': WHATEVER THE INPUT: true; the input reads as it did. -/
def passMarksSpec : ChangeSpec := { name := "passMarks", fn := fun _ => fun
  | [d1, d2] => { results := [.lit (.bool true)], args := [d1, d2] }
  | _ => none }
def passMarksRow : OpenClaim := { program := "ytfmjnooicjfbbaa", sum := "ed1ecb1a3ba4b45218765f27bbe411052de9919be57ad82f50a005ee3ccd5440", func := "mudlark/mudlarklaw16.PassMarks", spec := "passMarks", inPlace := ["sync/atomic.StoreUint64", "sync/atomic.LoadUint64", "sync/atomic.CompareAndSwapUint64", "sync/atomic.AddUint64"], unfollowed := true, recurses := true, apart := false }
def PassMarksSaid : Prop := passMarksRow.holds Try.pinned (OpenSpec.ofChange passMarksSpec)

/-- ITS FALSE NEIGHBOUR: 'it returns false'. Refute it at one input. -/
def passMarksWrong : ChangeSpec := { name := "passMarks", fn := fun _ => fun
  | [d1, d2] => { results := [.lit (.bool false)], args := [d1, d2] }
  | _ => none }
def PassMarksWrongFalsely : Prop := passMarksRow.holds Try.pinned (OpenSpec.ofChange passMarksWrong)

/-- 'mudlarklaw19.CollectorCycles': WHATEVER THE INPUT: true; the input reads as it did. -/
def collectorCyclesSpec : ChangeSpec := { name := "collectorCycles", fn := fun _ => fun
  | [d1, d2] => { results := [.lit (.bool true)], args := [d1, d2] }
  | _ => none }
def collectorCyclesRow : OpenClaim := { program := "ytfmjnooicjfbbaa", sum := "ed1ecb1a3ba4b45218765f27bbe411052de9919be57ad82f50a005ee3ccd5440", func := "mudlark/mudlarklaw19.CollectorCycles", spec := "collectorCycles", inPlace := ["sync/atomic.StoreUint64", "sync/atomic.LoadUint64", "sync/atomic.CompareAndSwapUint64", "sync/atomic.AddUint64"], unfollowed := true, recurses := true, apart := false }
def CollectorCyclesSaid : Prop := collectorCyclesRow.holds Try.pinned (OpenSpec.ofChange collectorCyclesSpec)

/-- ITS FALSE NEIGHBOUR: 'it returns false'. Refute it at one input. -/
def collectorCyclesWrong : ChangeSpec := { name := "collectorCycles", fn := fun _ => fun
  | [d1, d2] => { results := [.lit (.bool false)], args := [d1, d2] }
  | _ => none }
def CollectorCyclesWrongFalsely : Prop := collectorCyclesRow.holds Try.pinned (OpenSpec.ofChange collectorCyclesWrong)

/-- 'mudlarklaw14.LispTouches': WHATEVER THE INPUT: true; the input reads as it did. -/
def lispTouchesSpec : ChangeSpec := { name := "lispTouches", fn := fun _ => fun
  | [d1, d2, d3, d4] => { results := [.lit (.bool true)], args := [d1, d2, d3, d4] }
  | _ => none }
def lispTouchesRow : OpenClaim := { program := "ytfmjnooicjfbbaa", sum := "ed1ecb1a3ba4b45218765f27bbe411052de9919be57ad82f50a005ee3ccd5440", func := "mudlark/mudlarklaw14.LispTouches", spec := "lispTouches", inPlace := ["sync/atomic.StoreUint64", "sync/atomic.LoadUint64", "sync/atomic.CompareAndSwapUint64", "sync/atomic.AddUint64"], unfollowed := true, recurses := true, apart := false }
def LispTouchesSaid : Prop := lispTouchesRow.holds Try.pinned (OpenSpec.ofChange lispTouchesSpec)

/-- ITS FALSE NEIGHBOUR: 'it returns false'. Refute it at one input. -/
def lispTouchesWrong : ChangeSpec := { name := "lispTouches", fn := fun _ => fun
  | [d1, d2, d3, d4] => { results := [.lit (.bool false)], args := [d1, d2, d3, d4] }
  | _ => none }
def LispTouchesWrongFalsely : Prop := lispTouchesRow.holds Try.pinned (OpenSpec.ofChange lispTouchesWrong)

/-- 'mudlarklaw14.LispHolds': WHATEVER THE INPUT: true; the input reads as it did. -/
def lispHoldsSpec : ChangeSpec := { name := "lispHolds", fn := fun _ => fun
  | [d] => { results := [.lit (.bool true)], args := [d] }
  | _ => none }
def lispHoldsRow : OpenClaim := { program := "ytfmjnooicjfbbaa", sum := "ed1ecb1a3ba4b45218765f27bbe411052de9919be57ad82f50a005ee3ccd5440", func := "mudlark/mudlarklaw14.LispHolds", spec := "lispHolds", inPlace := ["sync/atomic.StoreUint64", "sync/atomic.LoadUint64", "sync/atomic.CompareAndSwapUint64", "sync/atomic.AddUint64"], unfollowed := true, recurses := true, apart := false }
def LispHoldsSaid : Prop := lispHoldsRow.holds Try.pinned (OpenSpec.ofChange lispHoldsSpec)

/-- ITS FALSE NEIGHBOUR: 'it returns false'. Refute it at one input. -/
def lispHoldsWrong : ChangeSpec := { name := "lispHolds", fn := fun _ => fun
  | [d] => { results := [.lit (.bool false)], args := [d] }
  | _ => none }
def LispHoldsWrongFalsely : Prop := lispHoldsRow.holds Try.pinned (OpenSpec.ofChange lispHoldsWrong)

/- THE SECOND FORM. 'bulk': how many values and letters a reading holds, each counted each time it is reached (what is shared counts as often as it is met; a slice's spare places count too). A statement '..UptoSaid' is the law's where the arguments, and the package variables that the reading takes, are together of bulk at most 1048576: NARROWER than '..Said'. Prove '..Said' where nothing that the law and all that it calls make is longer than what came in: it says more and counts as full. Else prove '..UptoSaid'. A law counts once. -/
mutual
def uptoBulk {H : Type} : DataW H → Nat
  | .lit (.string bytes) => bytes.length + 1
  | .lit _ => 1
  | .nil => 1
  | .ptr d => uptoBulk d + 1
  | .slice elems spare => uptoBulkAll elems + uptoBulkAll spare + 1
  | .agg parts => uptoBulkAll parts + 1
  | .iface _ d => uptoBulk d + 1
  | .map entries => uptoBulkEntries entries + 1
  | .held _ => 1
def uptoBulkAll {H : Type} : List (DataW H) → Nat
  | [] => 0
  | d :: r => uptoBulk d + uptoBulkAll r
def uptoBulkEntries {H : Type} : List (Lit × DataW H) → Nat
  | [] => 0
  | x :: r => uptoBulkEntry x + uptoBulkEntries r
def uptoBulkEntry {H : Type} : Lit × DataW H → Nat
  | (.string bytes, d) => bytes.length + uptoBulk d + 1
  | (_, d) => uptoBulk d + 1
 end
def uptoSmall : (H : Type) → List (DataW H) → Bool := fun _ ds => decide (uptoBulkAll ds ≤ 1048576)
def OpenSpec.upto (s : _root_.Go.ChangeSpec) : _root_.Go.OpenSpec := { _root_.Go.OpenSpec.ofChange s with cond := some uptoSmall }

/-- 'mudlarklaw31.ReplayGoes', WHERE WHAT IT READS IS OF BULK AT MOST 1048576: true; the input reads as it did. -/
def replayGoesUptoRow : OpenClaim := { program := "ytfmjnooicjfbbaa", sum := "ed1ecb1a3ba4b45218765f27bbe411052de9919be57ad82f50a005ee3ccd5440", func := "mudlark/mudlarklaw31.ReplayGoes", spec := "replayGoes", inPlace := ["sync/atomic.StoreUint64", "sync/atomic.LoadUint64", "sync/atomic.CompareAndSwapUint64", "sync/atomic.AddUint64"], unfollowed := true, recurses := true, apart := false, narrowed := true }
def ReplayGoesUptoSaid : Prop := replayGoesUptoRow.holds Try.pinned (OpenSpec.upto replayGoesSpec)

/-- 'mudlarklaw31.ReplayPlaces', WHERE WHAT IT READS IS OF BULK AT MOST 1048576: true; the input reads as it did. -/
def replayPlacesUptoRow : OpenClaim := { program := "ytfmjnooicjfbbaa", sum := "ed1ecb1a3ba4b45218765f27bbe411052de9919be57ad82f50a005ee3ccd5440", func := "mudlark/mudlarklaw31.ReplayPlaces", spec := "replayPlaces", inPlace := ["sync/atomic.StoreUint64", "sync/atomic.LoadUint64", "sync/atomic.CompareAndSwapUint64", "sync/atomic.AddUint64"], unfollowed := true, recurses := true, apart := false, narrowed := true }
def ReplayPlacesUptoSaid : Prop := replayPlacesUptoRow.holds Try.pinned (OpenSpec.upto replayPlacesSpec)

/-- 'mudlarklaw11.TicketQueue', WHERE WHAT IT READS IS OF BULK AT MOST 1048576: true; the input reads as it did. -/
def ticketQueueUptoRow : OpenClaim := { program := "ytfmjnooicjfbbaa", sum := "ed1ecb1a3ba4b45218765f27bbe411052de9919be57ad82f50a005ee3ccd5440", func := "mudlark/mudlarklaw11.TicketQueue", spec := "ticketQueue", inPlace := ["sync/atomic.StoreUint64", "sync/atomic.LoadUint64", "sync/atomic.CompareAndSwapUint64", "sync/atomic.AddUint64"], unfollowed := true, recurses := true, apart := false, narrowed := true }
def TicketQueueUptoSaid : Prop := ticketQueueUptoRow.holds Try.pinned (OpenSpec.upto ticketQueueSpec)

/-- 'mudlarklaw12.GateKeeps', WHERE WHAT IT READS IS OF BULK AT MOST 1048576: true; the input reads as it did. -/
def gateKeepsUptoRow : OpenClaim := { program := "ytfmjnooicjfbbaa", sum := "ed1ecb1a3ba4b45218765f27bbe411052de9919be57ad82f50a005ee3ccd5440", func := "mudlark/mudlarklaw12.GateKeeps", spec := "gateKeeps", inPlace := ["sync/atomic.StoreUint64", "sync/atomic.LoadUint64", "sync/atomic.CompareAndSwapUint64", "sync/atomic.AddUint64"], unfollowed := true, recurses := true, apart := false, narrowed := true }
def GateKeepsUptoSaid : Prop := gateKeepsUptoRow.holds Try.pinned (OpenSpec.upto gateKeepsSpec)

/-- 'mudlarklaw12.GateGrows', WHERE WHAT IT READS IS OF BULK AT MOST 1048576: true; the input reads as it did. -/
def gateGrowsUptoRow : OpenClaim := { program := "ytfmjnooicjfbbaa", sum := "ed1ecb1a3ba4b45218765f27bbe411052de9919be57ad82f50a005ee3ccd5440", func := "mudlark/mudlarklaw12.GateGrows", spec := "gateGrows", inPlace := ["sync/atomic.StoreUint64", "sync/atomic.LoadUint64", "sync/atomic.CompareAndSwapUint64", "sync/atomic.AddUint64"], unfollowed := true, recurses := true, apart := false, narrowed := true }
def GateGrowsUptoSaid : Prop := gateGrowsUptoRow.holds Try.pinned (OpenSpec.upto gateGrowsSpec)

/-- 'mudlarklaw18.SweepSweeps', WHERE WHAT IT READS IS OF BULK AT MOST 1048576: true; the input reads as it did. -/
def sweepSweepsUptoRow : OpenClaim := { program := "ytfmjnooicjfbbaa", sum := "ed1ecb1a3ba4b45218765f27bbe411052de9919be57ad82f50a005ee3ccd5440", func := "mudlark/mudlarklaw18.SweepSweeps", spec := "sweepSweeps", inPlace := ["sync/atomic.StoreUint64", "sync/atomic.LoadUint64", "sync/atomic.CompareAndSwapUint64", "sync/atomic.AddUint64"], apart := false, narrowed := true }
def SweepSweepsUptoSaid : Prop := sweepSweepsUptoRow.holds Try.pinned (OpenSpec.upto sweepSweepsSpec)

/-- 'mudlarklaw17.BarKeeps', WHERE WHAT IT READS IS OF BULK AT MOST 1048576: true; the input reads as it did. -/
def barKeepsUptoRow : OpenClaim := { program := "ytfmjnooicjfbbaa", sum := "ed1ecb1a3ba4b45218765f27bbe411052de9919be57ad82f50a005ee3ccd5440", func := "mudlark/mudlarklaw17.BarKeeps", spec := "barKeeps", inPlace := ["sync/atomic.StoreUint64", "sync/atomic.LoadUint64", "sync/atomic.CompareAndSwapUint64", "sync/atomic.AddUint64"], unfollowed := true, recurses := true, apart := false, narrowed := true }
def BarKeepsUptoSaid : Prop := barKeepsUptoRow.holds Try.pinned (OpenSpec.upto barKeepsSpec)

/-- 'mudlarklaw17.BarOpens', WHERE WHAT IT READS IS OF BULK AT MOST 1048576: true; the input reads as it did. -/
def barOpensUptoRow : OpenClaim := { program := "ytfmjnooicjfbbaa", sum := "ed1ecb1a3ba4b45218765f27bbe411052de9919be57ad82f50a005ee3ccd5440", func := "mudlark/mudlarklaw17.BarOpens", spec := "barOpens", inPlace := ["sync/atomic.StoreUint64", "sync/atomic.LoadUint64", "sync/atomic.CompareAndSwapUint64", "sync/atomic.AddUint64"], unfollowed := true, recurses := true, apart := false, narrowed := true }
def BarOpensUptoSaid : Prop := barOpensUptoRow.holds Try.pinned (OpenSpec.upto barOpensSpec)

/-- 'mudlarklaw16.PassMarks', WHERE WHAT IT READS IS OF BULK AT MOST 1048576: true; the input reads as it did. -/
def passMarksUptoRow : OpenClaim := { program := "ytfmjnooicjfbbaa", sum := "ed1ecb1a3ba4b45218765f27bbe411052de9919be57ad82f50a005ee3ccd5440", func := "mudlark/mudlarklaw16.PassMarks", spec := "passMarks", inPlace := ["sync/atomic.StoreUint64", "sync/atomic.LoadUint64", "sync/atomic.CompareAndSwapUint64", "sync/atomic.AddUint64"], unfollowed := true, recurses := true, apart := false, narrowed := true }
def PassMarksUptoSaid : Prop := passMarksUptoRow.holds Try.pinned (OpenSpec.upto passMarksSpec)

/-- 'mudlarklaw19.CollectorCycles', WHERE WHAT IT READS IS OF BULK AT MOST 1048576: true; the input reads as it did. -/
def collectorCyclesUptoRow : OpenClaim := { program := "ytfmjnooicjfbbaa", sum := "ed1ecb1a3ba4b45218765f27bbe411052de9919be57ad82f50a005ee3ccd5440", func := "mudlark/mudlarklaw19.CollectorCycles", spec := "collectorCycles", inPlace := ["sync/atomic.StoreUint64", "sync/atomic.LoadUint64", "sync/atomic.CompareAndSwapUint64", "sync/atomic.AddUint64"], unfollowed := true, recurses := true, apart := false, narrowed := true }
def CollectorCyclesUptoSaid : Prop := collectorCyclesUptoRow.holds Try.pinned (OpenSpec.upto collectorCyclesSpec)

/-- 'mudlarklaw14.LispTouches', WHERE WHAT IT READS IS OF BULK AT MOST 1048576: true; the input reads as it did. -/
def lispTouchesUptoRow : OpenClaim := { program := "ytfmjnooicjfbbaa", sum := "ed1ecb1a3ba4b45218765f27bbe411052de9919be57ad82f50a005ee3ccd5440", func := "mudlark/mudlarklaw14.LispTouches", spec := "lispTouches", inPlace := ["sync/atomic.StoreUint64", "sync/atomic.LoadUint64", "sync/atomic.CompareAndSwapUint64", "sync/atomic.AddUint64"], unfollowed := true, recurses := true, apart := false, narrowed := true }
def LispTouchesUptoSaid : Prop := lispTouchesUptoRow.holds Try.pinned (OpenSpec.upto lispTouchesSpec)

/-- 'mudlarklaw14.LispHolds', WHERE WHAT IT READS IS OF BULK AT MOST 1048576: true; the input reads as it did. -/
def lispHoldsUptoRow : OpenClaim := { program := "ytfmjnooicjfbbaa", sum := "ed1ecb1a3ba4b45218765f27bbe411052de9919be57ad82f50a005ee3ccd5440", func := "mudlark/mudlarklaw14.LispHolds", spec := "lispHolds", inPlace := ["sync/atomic.StoreUint64", "sync/atomic.LoadUint64", "sync/atomic.CompareAndSwapUint64", "sync/atomic.AddUint64"], unfollowed := true, recurses := true, apart := false, narrowed := true }
def LispHoldsUptoSaid : Prop := lispHoldsUptoRow.holds Try.pinned (OpenSpec.upto lispHoldsSpec)

end Rows
end Go.Proofs.Ytfmjnooicjfbbaa
