/-
  No cell of these rows narrows 'for every input' (looked for: loops, veiled, ifaces, maps, wideKeys, modest, calm, conditions, laid).
  DERIVED. THE GIVEN ROWS OF THIS SEAT. 23 by the template 'for every input the law returns true; each argument reads behind the call as it read before'; 0 by the template 'total and deterministic' (their statements: YteggckdgjecfmaaTotals.lean).
  GIVEN WITH THE SEED: the statements are not yours to turn. If you find one false, say at which input.
  Laid BY PROGRAM, IN A SANDBOX (cutbox-rows.mjs): the forced cells as the released guide's own fill.sh prints them over the translation 78d2bbf1e9374b58… (all of the seat's roots in one cut). By AI agents, Wed Nov 11 2026. No macro, syntax, notation, axiom, sorry.
-/
import Derived.Test.YteggckdgjecfmaaChecked
import GoSem.Claim
import GoSem.ClaimJoined
import GoSem.ClaimMapViews
import Derived.JoinedTies
import Derived.KernelRfl
namespace Go.Proofs.Yteggckdgjecfmaa
/- THE CELL 'sum', in the pinned program and in every row, IS THE sha256 OF THE DUMP (.gsa) THAT YteggckdgjecfmaaProg.lean LOADS. Nothing in Lean hashes anything: it is a label: what it is worth is what the hold of that sum in a sandbox is worth. -/
noncomputable def Try.pinned : Pinned := { name := "yteggckdgjecfmaa", sum := "78d2bbf1e9374b581e4dfbef2c4bdc5a36a62a1a9721269ec56ee2b2671495c8", checked := Try.checked }
namespace Rows
def none {H : Type} : Left H := { results := [], args := [] }

/-- 'mudlarklaw31.ReplayGoes': WHATEVER THE INPUT: true; the input reads as it did. -/
def replayGoesSpec : ChangeSpec := { name := "replayGoes", fn := fun _ => fun
  | [d1, d2] => { results := [.lit (.bool true)], args := [d1, d2] }
  | _ => none }
def replayGoesRow : OpenClaim := { program := "yteggckdgjecfmaa", sum := "78d2bbf1e9374b581e4dfbef2c4bdc5a36a62a1a9721269ec56ee2b2671495c8", func := "mudlark/mudlarklaw31.ReplayGoes", spec := "replayGoes", inPlace := ["sync/atomic.StoreUint64", "sync/atomic.LoadUint64", "sync/atomic.CompareAndSwapUint64", "sync/atomic.AddUint64"], unfollowed := true, recurses := true, apart := false }
def ReplayGoesSaid : Prop := replayGoesRow.holds Try.pinned (OpenSpec.ofChange replayGoesSpec)

/-- ITS FALSE NEIGHBOUR: 'it returns false'. Refute it at one input. -/
def replayGoesWrong : ChangeSpec := { name := "replayGoes", fn := fun _ => fun
  | [d1, d2] => { results := [.lit (.bool false)], args := [d1, d2] }
  | _ => none }
def ReplayGoesWrongFalsely : Prop := replayGoesRow.holds Try.pinned (OpenSpec.ofChange replayGoesWrong)

/-- 'mudlarklaw31.ReplayPlaces': WHATEVER THE INPUT: true; the input reads as it did. -/
def replayPlacesSpec : ChangeSpec := { name := "replayPlaces", fn := fun _ => fun
  | [d1, d2] => { results := [.lit (.bool true)], args := [d1, d2] }
  | _ => none }
def replayPlacesRow : OpenClaim := { program := "yteggckdgjecfmaa", sum := "78d2bbf1e9374b581e4dfbef2c4bdc5a36a62a1a9721269ec56ee2b2671495c8", func := "mudlark/mudlarklaw31.ReplayPlaces", spec := "replayPlaces", inPlace := ["sync/atomic.StoreUint64", "sync/atomic.LoadUint64", "sync/atomic.CompareAndSwapUint64", "sync/atomic.AddUint64"], unfollowed := true, recurses := true, apart := false }
def ReplayPlacesSaid : Prop := replayPlacesRow.holds Try.pinned (OpenSpec.ofChange replayPlacesSpec)

/-- ITS FALSE NEIGHBOUR: 'it returns false'. Refute it at one input. -/
def replayPlacesWrong : ChangeSpec := { name := "replayPlaces", fn := fun _ => fun
  | [d1, d2] => { results := [.lit (.bool false)], args := [d1, d2] }
  | _ => none }
def ReplayPlacesWrongFalsely : Prop := replayPlacesRow.holds Try.pinned (OpenSpec.ofChange replayPlacesWrong)

/-- 'mudlarklaw11.TicketQueue': WHATEVER THE INPUT: true; the input reads as it did. -/
def ticketQueueSpec : ChangeSpec := { name := "ticketQueue", fn := fun _ => fun
  | [d1, d2, d3] => { results := [.lit (.bool true)], args := [d1, d2, d3] }
  | _ => none }
def ticketQueueRow : OpenClaim := { program := "yteggckdgjecfmaa", sum := "78d2bbf1e9374b581e4dfbef2c4bdc5a36a62a1a9721269ec56ee2b2671495c8", func := "mudlark/mudlarklaw11.TicketQueue", spec := "ticketQueue", inPlace := ["sync/atomic.StoreUint64", "sync/atomic.LoadUint64", "sync/atomic.CompareAndSwapUint64", "sync/atomic.AddUint64"], unfollowed := true, recurses := true, apart := false }
def TicketQueueSaid : Prop := ticketQueueRow.holds Try.pinned (OpenSpec.ofChange ticketQueueSpec)

/-- ITS FALSE NEIGHBOUR: 'it returns false'. Refute it at one input. -/
def ticketQueueWrong : ChangeSpec := { name := "ticketQueue", fn := fun _ => fun
  | [d1, d2, d3] => { results := [.lit (.bool false)], args := [d1, d2, d3] }
  | _ => none }
def TicketQueueWrongFalsely : Prop := ticketQueueRow.holds Try.pinned (OpenSpec.ofChange ticketQueueWrong)

/-- 'mudlarklaw12.GateKeeps': WHATEVER THE INPUT: true; the input reads as it did. -/
def gateKeepsSpec : ChangeSpec := { name := "gateKeeps", fn := fun _ => fun
  | [d1, d2] => { results := [.lit (.bool true)], args := [d1, d2] }
  | _ => none }
def gateKeepsRow : OpenClaim := { program := "yteggckdgjecfmaa", sum := "78d2bbf1e9374b581e4dfbef2c4bdc5a36a62a1a9721269ec56ee2b2671495c8", func := "mudlark/mudlarklaw12.GateKeeps", spec := "gateKeeps", inPlace := ["sync/atomic.StoreUint64", "sync/atomic.LoadUint64", "sync/atomic.CompareAndSwapUint64", "sync/atomic.AddUint64"], unfollowed := true, recurses := true, apart := false }
def GateKeepsSaid : Prop := gateKeepsRow.holds Try.pinned (OpenSpec.ofChange gateKeepsSpec)

/-- ITS FALSE NEIGHBOUR: 'it returns false'. Refute it at one input. -/
def gateKeepsWrong : ChangeSpec := { name := "gateKeeps", fn := fun _ => fun
  | [d1, d2] => { results := [.lit (.bool false)], args := [d1, d2] }
  | _ => none }
def GateKeepsWrongFalsely : Prop := gateKeepsRow.holds Try.pinned (OpenSpec.ofChange gateKeepsWrong)

/-- 'mudlarklaw12.GateGrows': WHATEVER THE INPUT: true; the input reads as it did. -/
def gateGrowsSpec : ChangeSpec := { name := "gateGrows", fn := fun _ => fun
  | [d1, d2] => { results := [.lit (.bool true)], args := [d1, d2] }
  | _ => none }
def gateGrowsRow : OpenClaim := { program := "yteggckdgjecfmaa", sum := "78d2bbf1e9374b581e4dfbef2c4bdc5a36a62a1a9721269ec56ee2b2671495c8", func := "mudlark/mudlarklaw12.GateGrows", spec := "gateGrows", inPlace := ["sync/atomic.StoreUint64", "sync/atomic.LoadUint64", "sync/atomic.CompareAndSwapUint64", "sync/atomic.AddUint64"], unfollowed := true, recurses := true, apart := false }
def GateGrowsSaid : Prop := gateGrowsRow.holds Try.pinned (OpenSpec.ofChange gateGrowsSpec)

/-- ITS FALSE NEIGHBOUR: 'it returns false'. Refute it at one input. -/
def gateGrowsWrong : ChangeSpec := { name := "gateGrows", fn := fun _ => fun
  | [d1, d2] => { results := [.lit (.bool false)], args := [d1, d2] }
  | _ => none }
def GateGrowsWrongFalsely : Prop := gateGrowsRow.holds Try.pinned (OpenSpec.ofChange gateGrowsWrong)

/-- 'mudlarklaw13.PopTakes': WHATEVER THE INPUT: true; the input reads as it did. -/
def popTakesSpec : ChangeSpec := { name := "popTakes", fn := fun _ => fun
  | [d1, d2] => { results := [.lit (.bool true)], args := [d1, d2] }
  | _ => none }
def popTakesRow : OpenClaim := { program := "yteggckdgjecfmaa", sum := "78d2bbf1e9374b581e4dfbef2c4bdc5a36a62a1a9721269ec56ee2b2671495c8", func := "mudlark/mudlarklaw13.PopTakes", spec := "popTakes", inPlace := ["sync/atomic.StoreUint64", "sync/atomic.LoadUint64", "sync/atomic.CompareAndSwapUint64", "sync/atomic.AddUint64"], apart := false }
def PopTakesSaid : Prop := popTakesRow.holds Try.pinned (OpenSpec.ofChange popTakesSpec)

/-- ITS FALSE NEIGHBOUR: 'it returns false'. Refute it at one input. -/
def popTakesWrong : ChangeSpec := { name := "popTakes", fn := fun _ => fun
  | [d1, d2] => { results := [.lit (.bool false)], args := [d1, d2] }
  | _ => none }
def PopTakesWrongFalsely : Prop := popTakesRow.holds Try.pinned (OpenSpec.ofChange popTakesWrong)

/-- 'mudlarklaw13.PopDrains': WHATEVER THE INPUT: true; the input reads as it did. -/
def popDrainsSpec : ChangeSpec := { name := "popDrains", fn := fun _ => fun
  | [d1, d2] => { results := [.lit (.bool true)], args := [d1, d2] }
  | _ => none }
def popDrainsRow : OpenClaim := { program := "yteggckdgjecfmaa", sum := "78d2bbf1e9374b581e4dfbef2c4bdc5a36a62a1a9721269ec56ee2b2671495c8", func := "mudlark/mudlarklaw13.PopDrains", spec := "popDrains", inPlace := ["sync/atomic.StoreUint64", "sync/atomic.LoadUint64", "sync/atomic.CompareAndSwapUint64", "sync/atomic.AddUint64"], apart := false }
def PopDrainsSaid : Prop := popDrainsRow.holds Try.pinned (OpenSpec.ofChange popDrainsSpec)

/-- ITS FALSE NEIGHBOUR: 'it returns false'. Refute it at one input. -/
def popDrainsWrong : ChangeSpec := { name := "popDrains", fn := fun _ => fun
  | [d1, d2] => { results := [.lit (.bool false)], args := [d1, d2] }
  | _ => none }
def PopDrainsWrongFalsely : Prop := popDrainsRow.holds Try.pinned (OpenSpec.ofChange popDrainsWrong)

/-- 'mudlarklaw18.SweepSteps': WHATEVER THE INPUT: true; the input reads as it did. -/
def sweepStepsSpec : ChangeSpec := { name := "sweepSteps", fn := fun _ => fun
  | [d1, d2, d3, d4] => { results := [.lit (.bool true)], args := [d1, d2, d3, d4] }
  | _ => none }
def sweepStepsRow : OpenClaim := { program := "yteggckdgjecfmaa", sum := "78d2bbf1e9374b581e4dfbef2c4bdc5a36a62a1a9721269ec56ee2b2671495c8", func := "mudlark/mudlarklaw18.SweepSteps", spec := "sweepSteps", inPlace := ["sync/atomic.StoreUint64", "sync/atomic.LoadUint64", "sync/atomic.CompareAndSwapUint64", "sync/atomic.AddUint64"], apart := false }
def SweepStepsSaid : Prop := sweepStepsRow.holds Try.pinned (OpenSpec.ofChange sweepStepsSpec)

/-- ITS FALSE NEIGHBOUR: 'it returns false'. Refute it at one input. -/
def sweepStepsWrong : ChangeSpec := { name := "sweepSteps", fn := fun _ => fun
  | [d1, d2, d3, d4] => { results := [.lit (.bool false)], args := [d1, d2, d3, d4] }
  | _ => none }
def SweepStepsWrongFalsely : Prop := sweepStepsRow.holds Try.pinned (OpenSpec.ofChange sweepStepsWrong)

/-- 'mudlarklaw18.SweepSweeps': WHATEVER THE INPUT: true; the input reads as it did. -/
def sweepSweepsSpec : ChangeSpec := { name := "sweepSweeps", fn := fun _ => fun
  | [d1, d2] => { results := [.lit (.bool true)], args := [d1, d2] }
  | _ => none }
def sweepSweepsRow : OpenClaim := { program := "yteggckdgjecfmaa", sum := "78d2bbf1e9374b581e4dfbef2c4bdc5a36a62a1a9721269ec56ee2b2671495c8", func := "mudlark/mudlarklaw18.SweepSweeps", spec := "sweepSweeps", inPlace := ["sync/atomic.StoreUint64", "sync/atomic.LoadUint64", "sync/atomic.CompareAndSwapUint64", "sync/atomic.AddUint64"], apart := false }
def SweepSweepsSaid : Prop := sweepSweepsRow.holds Try.pinned (OpenSpec.ofChange sweepSweepsSpec)

/-- ITS FALSE NEIGHBOUR: 'it returns false'. Refute it at one input. -/
def sweepSweepsWrong : ChangeSpec := { name := "sweepSweeps", fn := fun _ => fun
  | [d1, d2] => { results := [.lit (.bool false)], args := [d1, d2] }
  | _ => none }
def SweepSweepsWrongFalsely : Prop := sweepSweepsRow.holds Try.pinned (OpenSpec.ofChange sweepSweepsWrong)

/-- 'mudlarklaw17.BarSteps': WHATEVER THE INPUT: true; the input reads as it did. -/
def barStepsSpec : ChangeSpec := { name := "barSteps", fn := fun _ => fun
  | [d1, d2, d3] => { results := [.lit (.bool true)], args := [d1, d2, d3] }
  | _ => none }
def barStepsRow : OpenClaim := { program := "yteggckdgjecfmaa", sum := "78d2bbf1e9374b581e4dfbef2c4bdc5a36a62a1a9721269ec56ee2b2671495c8", func := "mudlark/mudlarklaw17.BarSteps", spec := "barSteps", inPlace := ["sync/atomic.StoreUint64", "sync/atomic.LoadUint64", "sync/atomic.CompareAndSwapUint64", "sync/atomic.AddUint64"], unfollowed := true, recurses := true, apart := false }
def BarStepsSaid : Prop := barStepsRow.holds Try.pinned (OpenSpec.ofChange barStepsSpec)

/-- ITS FALSE NEIGHBOUR: 'it returns false'. Refute it at one input. -/
def barStepsWrong : ChangeSpec := { name := "barSteps", fn := fun _ => fun
  | [d1, d2, d3] => { results := [.lit (.bool false)], args := [d1, d2, d3] }
  | _ => none }
def BarStepsWrongFalsely : Prop := barStepsRow.holds Try.pinned (OpenSpec.ofChange barStepsWrong)

/-- 'mudlarklaw17.BarDirty': WHATEVER THE INPUT: true; the input reads as it did. -/
def barDirtySpec : ChangeSpec := { name := "barDirty", fn := fun _ => fun
  | [d1, d2] => { results := [.lit (.bool true)], args := [d1, d2] }
  | _ => none }
def barDirtyRow : OpenClaim := { program := "yteggckdgjecfmaa", sum := "78d2bbf1e9374b581e4dfbef2c4bdc5a36a62a1a9721269ec56ee2b2671495c8", func := "mudlark/mudlarklaw17.BarDirty", spec := "barDirty", inPlace := ["sync/atomic.StoreUint64", "sync/atomic.LoadUint64", "sync/atomic.CompareAndSwapUint64", "sync/atomic.AddUint64"], unfollowed := true, recurses := true, apart := false }
def BarDirtySaid : Prop := barDirtyRow.holds Try.pinned (OpenSpec.ofChange barDirtySpec)

/-- ITS FALSE NEIGHBOUR: 'it returns false'. Refute it at one input. -/
def barDirtyWrong : ChangeSpec := { name := "barDirty", fn := fun _ => fun
  | [d1, d2] => { results := [.lit (.bool false)], args := [d1, d2] }
  | _ => none }
def BarDirtyWrongFalsely : Prop := barDirtyRow.holds Try.pinned (OpenSpec.ofChange barDirtyWrong)

/-- 'mudlarklaw17.BarKeeps': WHATEVER THE INPUT: true; the input reads as it did. -/
def barKeepsSpec : ChangeSpec := { name := "barKeeps", fn := fun _ => fun
  | [d1, d2, d3] => { results := [.lit (.bool true)], args := [d1, d2, d3] }
  | _ => none }
def barKeepsRow : OpenClaim := { program := "yteggckdgjecfmaa", sum := "78d2bbf1e9374b581e4dfbef2c4bdc5a36a62a1a9721269ec56ee2b2671495c8", func := "mudlark/mudlarklaw17.BarKeeps", spec := "barKeeps", inPlace := ["sync/atomic.StoreUint64", "sync/atomic.LoadUint64", "sync/atomic.CompareAndSwapUint64", "sync/atomic.AddUint64"], unfollowed := true, recurses := true, apart := false }
def BarKeepsSaid : Prop := barKeepsRow.holds Try.pinned (OpenSpec.ofChange barKeepsSpec)

/-- ITS FALSE NEIGHBOUR: 'it returns false'. Refute it at one input. -/
def barKeepsWrong : ChangeSpec := { name := "barKeeps", fn := fun _ => fun
  | [d1, d2, d3] => { results := [.lit (.bool false)], args := [d1, d2, d3] }
  | _ => none }
def BarKeepsWrongFalsely : Prop := barKeepsRow.holds Try.pinned (OpenSpec.ofChange barKeepsWrong)

/-- 'mudlarklaw17.BarOpens': WHATEVER THE INPUT: true; the input reads as it did. -/
def barOpensSpec : ChangeSpec := { name := "barOpens", fn := fun _ => fun
  | [d1, d2] => { results := [.lit (.bool true)], args := [d1, d2] }
  | _ => none }
def barOpensRow : OpenClaim := { program := "yteggckdgjecfmaa", sum := "78d2bbf1e9374b581e4dfbef2c4bdc5a36a62a1a9721269ec56ee2b2671495c8", func := "mudlark/mudlarklaw17.BarOpens", spec := "barOpens", inPlace := ["sync/atomic.StoreUint64", "sync/atomic.LoadUint64", "sync/atomic.CompareAndSwapUint64", "sync/atomic.AddUint64"], unfollowed := true, recurses := true, apart := false }
def BarOpensSaid : Prop := barOpensRow.holds Try.pinned (OpenSpec.ofChange barOpensSpec)

/-- ITS FALSE NEIGHBOUR: 'it returns false'. Refute it at one input. -/
def barOpensWrong : ChangeSpec := { name := "barOpens", fn := fun _ => fun
  | [d1, d2] => { results := [.lit (.bool false)], args := [d1, d2] }
  | _ => none }
def BarOpensWrongFalsely : Prop := barOpensRow.holds Try.pinned (OpenSpec.ofChange barOpensWrong)

/-- 'mudlarklaw15.RootsShades': WHATEVER THE INPUT: true; the input reads as it did. -/
def rootsShadesSpec : ChangeSpec := { name := "rootsShades", fn := fun _ => fun
  | [d1, d2] => { results := [.lit (.bool true)], args := [d1, d2] }
  | _ => none }
def rootsShadesRow : OpenClaim := { program := "yteggckdgjecfmaa", sum := "78d2bbf1e9374b581e4dfbef2c4bdc5a36a62a1a9721269ec56ee2b2671495c8", func := "mudlark/mudlarklaw15.RootsShades", spec := "rootsShades", inPlace := ["sync/atomic.StoreUint64", "sync/atomic.LoadUint64", "sync/atomic.CompareAndSwapUint64", "sync/atomic.AddUint64"], apart := false }
def RootsShadesSaid : Prop := rootsShadesRow.holds Try.pinned (OpenSpec.ofChange rootsShadesSpec)

/-- ITS FALSE NEIGHBOUR: 'it returns false'. Refute it at one input. -/
def rootsShadesWrong : ChangeSpec := { name := "rootsShades", fn := fun _ => fun
  | [d1, d2] => { results := [.lit (.bool false)], args := [d1, d2] }
  | _ => none }
def RootsShadesWrongFalsely : Prop := rootsShadesRow.holds Try.pinned (OpenSpec.ofChange rootsShadesWrong)

/-- 'mudlarklaw15.RootsOnce': WHATEVER THE INPUT: true; the input reads as it did. -/
def rootsOnceSpec : ChangeSpec := { name := "rootsOnce", fn := fun _ => fun
  | [d1, d2] => { results := [.lit (.bool true)], args := [d1, d2] }
  | _ => none }
def rootsOnceRow : OpenClaim := { program := "yteggckdgjecfmaa", sum := "78d2bbf1e9374b581e4dfbef2c4bdc5a36a62a1a9721269ec56ee2b2671495c8", func := "mudlark/mudlarklaw15.RootsOnce", spec := "rootsOnce", inPlace := ["sync/atomic.StoreUint64", "sync/atomic.LoadUint64", "sync/atomic.CompareAndSwapUint64", "sync/atomic.AddUint64"], apart := false }
def RootsOnceSaid : Prop := rootsOnceRow.holds Try.pinned (OpenSpec.ofChange rootsOnceSpec)

/-- ITS FALSE NEIGHBOUR: 'it returns false'. Refute it at one input. -/
def rootsOnceWrong : ChangeSpec := { name := "rootsOnce", fn := fun _ => fun
  | [d1, d2] => { results := [.lit (.bool false)], args := [d1, d2] }
  | _ => none }
def RootsOnceWrongFalsely : Prop := rootsOnceRow.holds Try.pinned (OpenSpec.ofChange rootsOnceWrong)

/-- 'mudlarklaw16.PassSteps': WHATEVER THE INPUT: true; the input reads as it did. -/
def passStepsSpec : ChangeSpec := { name := "passSteps", fn := fun _ => fun
  | [d1, d2, d3] => { results := [.lit (.bool true)], args := [d1, d2, d3] }
  | _ => none }
def passStepsRow : OpenClaim := { program := "yteggckdgjecfmaa", sum := "78d2bbf1e9374b581e4dfbef2c4bdc5a36a62a1a9721269ec56ee2b2671495c8", func := "mudlark/mudlarklaw16.PassSteps", spec := "passSteps", inPlace := ["sync/atomic.StoreUint64", "sync/atomic.LoadUint64", "sync/atomic.CompareAndSwapUint64", "sync/atomic.AddUint64"], unfollowed := true, recurses := true, apart := false }
def PassStepsSaid : Prop := passStepsRow.holds Try.pinned (OpenSpec.ofChange passStepsSpec)

/-- ITS FALSE NEIGHBOUR: 'it returns false'. Refute it at one input. -/
def passStepsWrong : ChangeSpec := { name := "passSteps", fn := fun _ => fun
  | [d1, d2, d3] => { results := [.lit (.bool false)], args := [d1, d2, d3] }
  | _ => none }
def PassStepsWrongFalsely : Prop := passStepsRow.holds Try.pinned (OpenSpec.ofChange passStepsWrong)

/-- 'mudlarklaw16.PassGreys': WHATEVER THE INPUT: true; the input reads as it did. -/
def passGreysSpec : ChangeSpec := { name := "passGreys", fn := fun _ => fun
  | [d1, d2] => { results := [.lit (.bool true)], args := [d1, d2] }
  | _ => none }
def passGreysRow : OpenClaim := { program := "yteggckdgjecfmaa", sum := "78d2bbf1e9374b581e4dfbef2c4bdc5a36a62a1a9721269ec56ee2b2671495c8", func := "mudlark/mudlarklaw16.PassGreys", spec := "passGreys", inPlace := ["sync/atomic.StoreUint64", "sync/atomic.LoadUint64", "sync/atomic.CompareAndSwapUint64", "sync/atomic.AddUint64"], unfollowed := true, recurses := true, apart := false }
def PassGreysSaid : Prop := passGreysRow.holds Try.pinned (OpenSpec.ofChange passGreysSpec)

/-- ITS FALSE NEIGHBOUR: 'it returns false'. Refute it at one input. -/
def passGreysWrong : ChangeSpec := { name := "passGreys", fn := fun _ => fun
  | [d1, d2] => { results := [.lit (.bool false)], args := [d1, d2] }
  | _ => none }
def PassGreysWrongFalsely : Prop := passGreysRow.holds Try.pinned (OpenSpec.ofChange passGreysWrong)

/-- 'mudlarklaw16.PassMarks': WHATEVER THE INPUT: true; the input reads as it did. -/
def passMarksSpec : ChangeSpec := { name := "passMarks", fn := fun _ => fun
  | [d1, d2] => { results := [.lit (.bool true)], args := [d1, d2] }
  | _ => none }
def passMarksRow : OpenClaim := { program := "yteggckdgjecfmaa", sum := "78d2bbf1e9374b581e4dfbef2c4bdc5a36a62a1a9721269ec56ee2b2671495c8", func := "mudlark/mudlarklaw16.PassMarks", spec := "passMarks", inPlace := ["sync/atomic.StoreUint64", "sync/atomic.LoadUint64", "sync/atomic.CompareAndSwapUint64", "sync/atomic.AddUint64"], unfollowed := true, recurses := true, apart := false }
def PassMarksSaid : Prop := passMarksRow.holds Try.pinned (OpenSpec.ofChange passMarksSpec)

/-- ITS FALSE NEIGHBOUR: 'it returns false'. Refute it at one input. -/
def passMarksWrong : ChangeSpec := { name := "passMarks", fn := fun _ => fun
  | [d1, d2] => { results := [.lit (.bool false)], args := [d1, d2] }
  | _ => none }
def PassMarksWrongFalsely : Prop := passMarksRow.holds Try.pinned (OpenSpec.ofChange passMarksWrong)

/-- 'mudlarklaw16.PassQuiet': WHATEVER THE INPUT: true; the input reads as it did. -/
def passQuietSpec : ChangeSpec := { name := "passQuiet", fn := fun _ => fun
  | [d1, d2] => { results := [.lit (.bool true)], args := [d1, d2] }
  | _ => none }
def passQuietRow : OpenClaim := { program := "yteggckdgjecfmaa", sum := "78d2bbf1e9374b581e4dfbef2c4bdc5a36a62a1a9721269ec56ee2b2671495c8", func := "mudlark/mudlarklaw16.PassQuiet", spec := "passQuiet", inPlace := ["sync/atomic.StoreUint64", "sync/atomic.LoadUint64", "sync/atomic.CompareAndSwapUint64", "sync/atomic.AddUint64"], unfollowed := true, recurses := true, apart := false }
def PassQuietSaid : Prop := passQuietRow.holds Try.pinned (OpenSpec.ofChange passQuietSpec)

/-- ITS FALSE NEIGHBOUR: 'it returns false'. Refute it at one input. -/
def passQuietWrong : ChangeSpec := { name := "passQuiet", fn := fun _ => fun
  | [d1, d2] => { results := [.lit (.bool false)], args := [d1, d2] }
  | _ => none }
def PassQuietWrongFalsely : Prop := passQuietRow.holds Try.pinned (OpenSpec.ofChange passQuietWrong)

/-- 'mudlarklaw19.CollectorSteps': WHATEVER THE INPUT: true; the input reads as it did. -/
def collectorStepsSpec : ChangeSpec := { name := "collectorSteps", fn := fun _ => fun
  | [d1, d2, d3] => { results := [.lit (.bool true)], args := [d1, d2, d3] }
  | _ => none }
def collectorStepsRow : OpenClaim := { program := "yteggckdgjecfmaa", sum := "78d2bbf1e9374b581e4dfbef2c4bdc5a36a62a1a9721269ec56ee2b2671495c8", func := "mudlark/mudlarklaw19.CollectorSteps", spec := "collectorSteps", inPlace := ["sync/atomic.StoreUint64", "sync/atomic.LoadUint64", "sync/atomic.CompareAndSwapUint64", "sync/atomic.AddUint64"], unfollowed := true, recurses := true, apart := false }
def CollectorStepsSaid : Prop := collectorStepsRow.holds Try.pinned (OpenSpec.ofChange collectorStepsSpec)

/-- ITS FALSE NEIGHBOUR: 'it returns false'. Refute it at one input. -/
def collectorStepsWrong : ChangeSpec := { name := "collectorSteps", fn := fun _ => fun
  | [d1, d2, d3] => { results := [.lit (.bool false)], args := [d1, d2, d3] }
  | _ => none }
def CollectorStepsWrongFalsely : Prop := collectorStepsRow.holds Try.pinned (OpenSpec.ofChange collectorStepsWrong)

/-- 'mudlarklaw19.CollectorCycles': WHATEVER THE INPUT: true; the input reads as it did. -/
def collectorCyclesSpec : ChangeSpec := { name := "collectorCycles", fn := fun _ => fun
  | [d1, d2] => { results := [.lit (.bool true)], args := [d1, d2] }
  | _ => none }
def collectorCyclesRow : OpenClaim := { program := "yteggckdgjecfmaa", sum := "78d2bbf1e9374b581e4dfbef2c4bdc5a36a62a1a9721269ec56ee2b2671495c8", func := "mudlark/mudlarklaw19.CollectorCycles", spec := "collectorCycles", inPlace := ["sync/atomic.StoreUint64", "sync/atomic.LoadUint64", "sync/atomic.CompareAndSwapUint64", "sync/atomic.AddUint64"], unfollowed := true, recurses := true, apart := false }
def CollectorCyclesSaid : Prop := collectorCyclesRow.holds Try.pinned (OpenSpec.ofChange collectorCyclesSpec)

/-- ITS FALSE NEIGHBOUR: 'it returns false'. Refute it at one input. -/
def collectorCyclesWrong : ChangeSpec := { name := "collectorCycles", fn := fun _ => fun
  | [d1, d2] => { results := [.lit (.bool false)], args := [d1, d2] }
  | _ => none }
def CollectorCyclesWrongFalsely : Prop := collectorCyclesRow.holds Try.pinned (OpenSpec.ofChange collectorCyclesWrong)

/-- 'mudlarklaw14.LispTouches': WHATEVER THE INPUT: true; the input reads as it did. -/
def lispTouchesSpec : ChangeSpec := { name := "lispTouches", fn := fun _ => fun
  | [d1, d2, d3, d4] => { results := [.lit (.bool true)], args := [d1, d2, d3, d4] }
  | _ => none }
def lispTouchesRow : OpenClaim := { program := "yteggckdgjecfmaa", sum := "78d2bbf1e9374b581e4dfbef2c4bdc5a36a62a1a9721269ec56ee2b2671495c8", func := "mudlark/mudlarklaw14.LispTouches", spec := "lispTouches", inPlace := ["sync/atomic.StoreUint64", "sync/atomic.LoadUint64", "sync/atomic.CompareAndSwapUint64", "sync/atomic.AddUint64"], unfollowed := true, recurses := true, apart := false }
def LispTouchesSaid : Prop := lispTouchesRow.holds Try.pinned (OpenSpec.ofChange lispTouchesSpec)

/-- ITS FALSE NEIGHBOUR: 'it returns false'. Refute it at one input. -/
def lispTouchesWrong : ChangeSpec := { name := "lispTouches", fn := fun _ => fun
  | [d1, d2, d3, d4] => { results := [.lit (.bool false)], args := [d1, d2, d3, d4] }
  | _ => none }
def LispTouchesWrongFalsely : Prop := lispTouchesRow.holds Try.pinned (OpenSpec.ofChange lispTouchesWrong)

/-- 'mudlarklaw14.LispHolds': WHATEVER THE INPUT: true; the input reads as it did. -/
def lispHoldsSpec : ChangeSpec := { name := "lispHolds", fn := fun _ => fun
  | [d] => { results := [.lit (.bool true)], args := [d] }
  | _ => none }
def lispHoldsRow : OpenClaim := { program := "yteggckdgjecfmaa", sum := "78d2bbf1e9374b581e4dfbef2c4bdc5a36a62a1a9721269ec56ee2b2671495c8", func := "mudlark/mudlarklaw14.LispHolds", spec := "lispHolds", inPlace := ["sync/atomic.StoreUint64", "sync/atomic.LoadUint64", "sync/atomic.CompareAndSwapUint64", "sync/atomic.AddUint64"], unfollowed := true, recurses := true, apart := false }
def LispHoldsSaid : Prop := lispHoldsRow.holds Try.pinned (OpenSpec.ofChange lispHoldsSpec)

/-- ITS FALSE NEIGHBOUR: 'it returns false'. Refute it at one input. -/
def lispHoldsWrong : ChangeSpec := { name := "lispHolds", fn := fun _ => fun
  | [d] => { results := [.lit (.bool false)], args := [d] }
  | _ => none }
def LispHoldsWrongFalsely : Prop := lispHoldsRow.holds Try.pinned (OpenSpec.ofChange lispHoldsWrong)

/- THE SECOND FORM. 'bulk': how many values and letters a reading holds, each counted each time it is reached (what is shared counts as often as it is met; a slice's spare places count too). A statement '..UptoSaid' is the law's where the arguments, and the package variables that the reading takes, are together of bulk at most 1048576: NARROWER than '..Said'. Prove '..Said' where nothing that the law and all that it calls make is longer than what came in: it says more and counts as full. Else prove '..UptoSaid'. A law counts once. -/
mutual
def uptoBulk {H : Type} : DataW H → Nat
  | .lit (.string bytes) => bytes.length + 1
  | .lit _ => 1
  | .nil => 1
  | .ptr d => uptoBulk d + 1
  | .slice elems spare => uptoBulkAll elems + uptoBulkAll spare + 1
  | .agg parts => uptoBulkAll parts + 1
  | .iface _ d => uptoBulk d + 1
  | .map entries => uptoBulkEntries entries + 1
  | .held _ => 1
def uptoBulkAll {H : Type} : List (DataW H) → Nat
  | [] => 0
  | d :: r => uptoBulk d + uptoBulkAll r
def uptoBulkEntries {H : Type} : List (Lit × DataW H) → Nat
  | [] => 0
  | x :: r => uptoBulkEntry x + uptoBulkEntries r
def uptoBulkEntry {H : Type} : Lit × DataW H → Nat
  | (.string bytes, d) => bytes.length + uptoBulk d + 1
  | (_, d) => uptoBulk d + 1
 end
def uptoSmall : (H : Type) → List (DataW H) → Bool := fun _ ds => decide (uptoBulkAll ds ≤ 1048576)
def OpenSpec.upto (s : _root_.Go.ChangeSpec) : _root_.Go.OpenSpec := { _root_.Go.OpenSpec.ofChange s with cond := some uptoSmall }

/-- 'mudlarklaw31.ReplayGoes', WHERE WHAT IT READS IS OF BULK AT MOST 1048576: true; the input reads as it did. -/
def replayGoesUptoRow : OpenClaim := { program := "yteggckdgjecfmaa", sum := "78d2bbf1e9374b581e4dfbef2c4bdc5a36a62a1a9721269ec56ee2b2671495c8", func := "mudlark/mudlarklaw31.ReplayGoes", spec := "replayGoes", inPlace := ["sync/atomic.StoreUint64", "sync/atomic.LoadUint64", "sync/atomic.CompareAndSwapUint64", "sync/atomic.AddUint64"], unfollowed := true, recurses := true, apart := false, narrowed := true }
def ReplayGoesUptoSaid : Prop := replayGoesUptoRow.holds Try.pinned (OpenSpec.upto replayGoesSpec)

/-- 'mudlarklaw31.ReplayPlaces', WHERE WHAT IT READS IS OF BULK AT MOST 1048576: true; the input reads as it did. -/
def replayPlacesUptoRow : OpenClaim := { program := "yteggckdgjecfmaa", sum := "78d2bbf1e9374b581e4dfbef2c4bdc5a36a62a1a9721269ec56ee2b2671495c8", func := "mudlark/mudlarklaw31.ReplayPlaces", spec := "replayPlaces", inPlace := ["sync/atomic.StoreUint64", "sync/atomic.LoadUint64", "sync/atomic.CompareAndSwapUint64", "sync/atomic.AddUint64"], unfollowed := true, recurses := true, apart := false, narrowed := true }
def ReplayPlacesUptoSaid : Prop := replayPlacesUptoRow.holds Try.pinned (OpenSpec.upto replayPlacesSpec)

/-- 'mudlarklaw11.TicketQueue', WHERE WHAT IT READS IS OF BULK AT MOST 1048576: true; the input reads as it did. -/
def ticketQueueUptoRow : OpenClaim := { program := "yteggckdgjecfmaa", sum := "78d2bbf1e9374b581e4dfbef2c4bdc5a36a62a1a9721269ec56ee2b2671495c8", func := "mudlark/mudlarklaw11.TicketQueue", spec := "ticketQueue", inPlace := ["sync/atomic.StoreUint64", "sync/atomic.LoadUint64", "sync/atomic.CompareAndSwapUint64", "sync/atomic.AddUint64"], unfollowed := true, recurses := true, apart := false, narrowed := true }
def TicketQueueUptoSaid : Prop := ticketQueueUptoRow.holds Try.pinned (OpenSpec.upto ticketQueueSpec)

/-- 'mudlarklaw12.GateKeeps', WHERE WHAT IT READS IS OF BULK AT MOST 1048576: true; the input reads as it did. -/
def gateKeepsUptoRow : OpenClaim := { program := "yteggckdgjecfmaa", sum := "78d2bbf1e9374b581e4dfbef2c4bdc5a36a62a1a9721269ec56ee2b2671495c8", func := "mudlark/mudlarklaw12.GateKeeps", spec := "gateKeeps", inPlace := ["sync/atomic.StoreUint64", "sync/atomic.LoadUint64", "sync/atomic.CompareAndSwapUint64", "sync/atomic.AddUint64"], unfollowed := true, recurses := true, apart := false, narrowed := true }
def GateKeepsUptoSaid : Prop := gateKeepsUptoRow.holds Try.pinned (OpenSpec.upto gateKeepsSpec)

/-- 'mudlarklaw12.GateGrows', WHERE WHAT IT READS IS OF BULK AT MOST 1048576: true; the input reads as it did. -/
def gateGrowsUptoRow : OpenClaim := { program := "yteggckdgjecfmaa", sum := "78d2bbf1e9374b581e4dfbef2c4bdc5a36a62a1a9721269ec56ee2b2671495c8", func := "mudlark/mudlarklaw12.GateGrows", spec := "gateGrows", inPlace := ["sync/atomic.StoreUint64", "sync/atomic.LoadUint64", "sync/atomic.CompareAndSwapUint64", "sync/atomic.AddUint64"], unfollowed := true, recurses := true, apart := false, narrowed := true }
def GateGrowsUptoSaid : Prop := gateGrowsUptoRow.holds Try.pinned (OpenSpec.upto gateGrowsSpec)

/-- 'mudlarklaw13.PopTakes', WHERE WHAT IT READS IS OF BULK AT MOST 1048576: true; the input reads as it did. -/
def popTakesUptoRow : OpenClaim := { program := "yteggckdgjecfmaa", sum := "78d2bbf1e9374b581e4dfbef2c4bdc5a36a62a1a9721269ec56ee2b2671495c8", func := "mudlark/mudlarklaw13.PopTakes", spec := "popTakes", inPlace := ["sync/atomic.StoreUint64", "sync/atomic.LoadUint64", "sync/atomic.CompareAndSwapUint64", "sync/atomic.AddUint64"], apart := false, narrowed := true }
def PopTakesUptoSaid : Prop := popTakesUptoRow.holds Try.pinned (OpenSpec.upto popTakesSpec)

/-- 'mudlarklaw13.PopDrains', WHERE WHAT IT READS IS OF BULK AT MOST 1048576: true; the input reads as it did. -/
def popDrainsUptoRow : OpenClaim := { program := "yteggckdgjecfmaa", sum := "78d2bbf1e9374b581e4dfbef2c4bdc5a36a62a1a9721269ec56ee2b2671495c8", func := "mudlark/mudlarklaw13.PopDrains", spec := "popDrains", inPlace := ["sync/atomic.StoreUint64", "sync/atomic.LoadUint64", "sync/atomic.CompareAndSwapUint64", "sync/atomic.AddUint64"], apart := false, narrowed := true }
def PopDrainsUptoSaid : Prop := popDrainsUptoRow.holds Try.pinned (OpenSpec.upto popDrainsSpec)

/-- 'mudlarklaw18.SweepSteps', WHERE WHAT IT READS IS OF BULK AT MOST 1048576: true; the input reads as it did. -/
def sweepStepsUptoRow : OpenClaim := { program := "yteggckdgjecfmaa", sum := "78d2bbf1e9374b581e4dfbef2c4bdc5a36a62a1a9721269ec56ee2b2671495c8", func := "mudlark/mudlarklaw18.SweepSteps", spec := "sweepSteps", inPlace := ["sync/atomic.StoreUint64", "sync/atomic.LoadUint64", "sync/atomic.CompareAndSwapUint64", "sync/atomic.AddUint64"], apart := false, narrowed := true }
def SweepStepsUptoSaid : Prop := sweepStepsUptoRow.holds Try.pinned (OpenSpec.upto sweepStepsSpec)

/-- 'mudlarklaw18.SweepSweeps', WHERE WHAT IT READS IS OF BULK AT MOST 1048576: true; the input reads as it did. -/
def sweepSweepsUptoRow : OpenClaim := { program := "yteggckdgjecfmaa", sum := "78d2bbf1e9374b581e4dfbef2c4bdc5a36a62a1a9721269ec56ee2b2671495c8", func := "mudlark/mudlarklaw18.SweepSweeps", spec := "sweepSweeps", inPlace := ["sync/atomic.StoreUint64", "sync/atomic.LoadUint64", "sync/atomic.CompareAndSwapUint64", "sync/atomic.AddUint64"], apart := false, narrowed := true }
def SweepSweepsUptoSaid : Prop := sweepSweepsUptoRow.holds Try.pinned (OpenSpec.upto sweepSweepsSpec)

/-- 'mudlarklaw17.BarSteps', WHERE WHAT IT READS IS OF BULK AT MOST 1048576: true; the input reads as it did. -/
def barStepsUptoRow : OpenClaim := { program := "yteggckdgjecfmaa", sum := "78d2bbf1e9374b581e4dfbef2c4bdc5a36a62a1a9721269ec56ee2b2671495c8", func := "mudlark/mudlarklaw17.BarSteps", spec := "barSteps", inPlace := ["sync/atomic.StoreUint64", "sync/atomic.LoadUint64", "sync/atomic.CompareAndSwapUint64", "sync/atomic.AddUint64"], unfollowed := true, recurses := true, apart := false, narrowed := true }
def BarStepsUptoSaid : Prop := barStepsUptoRow.holds Try.pinned (OpenSpec.upto barStepsSpec)

/-- 'mudlarklaw17.BarDirty', WHERE WHAT IT READS IS OF BULK AT MOST 1048576: true; the input reads as it did. -/
def barDirtyUptoRow : OpenClaim := { program := "yteggckdgjecfmaa", sum := "78d2bbf1e9374b581e4dfbef2c4bdc5a36a62a1a9721269ec56ee2b2671495c8", func := "mudlark/mudlarklaw17.BarDirty", spec := "barDirty", inPlace := ["sync/atomic.StoreUint64", "sync/atomic.LoadUint64", "sync/atomic.CompareAndSwapUint64", "sync/atomic.AddUint64"], unfollowed := true, recurses := true, apart := false, narrowed := true }
def BarDirtyUptoSaid : Prop := barDirtyUptoRow.holds Try.pinned (OpenSpec.upto barDirtySpec)

/-- 'mudlarklaw17.BarKeeps', WHERE WHAT IT READS IS OF BULK AT MOST 1048576: true; the input reads as it did. -/
def barKeepsUptoRow : OpenClaim := { program := "yteggckdgjecfmaa", sum := "78d2bbf1e9374b581e4dfbef2c4bdc5a36a62a1a9721269ec56ee2b2671495c8", func := "mudlark/mudlarklaw17.BarKeeps", spec := "barKeeps", inPlace := ["sync/atomic.StoreUint64", "sync/atomic.LoadUint64", "sync/atomic.CompareAndSwapUint64", "sync/atomic.AddUint64"], unfollowed := true, recurses := true, apart := false, narrowed := true }
def BarKeepsUptoSaid : Prop := barKeepsUptoRow.holds Try.pinned (OpenSpec.upto barKeepsSpec)

/-- 'mudlarklaw17.BarOpens', WHERE WHAT IT READS IS OF BULK AT MOST 1048576: true; the input reads as it did. -/
def barOpensUptoRow : OpenClaim := { program := "yteggckdgjecfmaa", sum := "78d2bbf1e9374b581e4dfbef2c4bdc5a36a62a1a9721269ec56ee2b2671495c8", func := "mudlark/mudlarklaw17.BarOpens", spec := "barOpens", inPlace := ["sync/atomic.StoreUint64", "sync/atomic.LoadUint64", "sync/atomic.CompareAndSwapUint64", "sync/atomic.AddUint64"], unfollowed := true, recurses := true, apart := false, narrowed := true }
def BarOpensUptoSaid : Prop := barOpensUptoRow.holds Try.pinned (OpenSpec.upto barOpensSpec)

/-- 'mudlarklaw15.RootsShades', WHERE WHAT IT READS IS OF BULK AT MOST 1048576: true; the input reads as it did. -/
def rootsShadesUptoRow : OpenClaim := { program := "yteggckdgjecfmaa", sum := "78d2bbf1e9374b581e4dfbef2c4bdc5a36a62a1a9721269ec56ee2b2671495c8", func := "mudlark/mudlarklaw15.RootsShades", spec := "rootsShades", inPlace := ["sync/atomic.StoreUint64", "sync/atomic.LoadUint64", "sync/atomic.CompareAndSwapUint64", "sync/atomic.AddUint64"], apart := false, narrowed := true }
def RootsShadesUptoSaid : Prop := rootsShadesUptoRow.holds Try.pinned (OpenSpec.upto rootsShadesSpec)

/-- 'mudlarklaw15.RootsOnce', WHERE WHAT IT READS IS OF BULK AT MOST 1048576: true; the input reads as it did. -/
def rootsOnceUptoRow : OpenClaim := { program := "yteggckdgjecfmaa", sum := "78d2bbf1e9374b581e4dfbef2c4bdc5a36a62a1a9721269ec56ee2b2671495c8", func := "mudlark/mudlarklaw15.RootsOnce", spec := "rootsOnce", inPlace := ["sync/atomic.StoreUint64", "sync/atomic.LoadUint64", "sync/atomic.CompareAndSwapUint64", "sync/atomic.AddUint64"], apart := false, narrowed := true }
def RootsOnceUptoSaid : Prop := rootsOnceUptoRow.holds Try.pinned (OpenSpec.upto rootsOnceSpec)

/-- 'mudlarklaw16.PassSteps', WHERE WHAT IT READS IS OF BULK AT MOST 1048576: true; the input reads as it did. -/
def passStepsUptoRow : OpenClaim := { program := "yteggckdgjecfmaa", sum := "78d2bbf1e9374b581e4dfbef2c4bdc5a36a62a1a9721269ec56ee2b2671495c8", func := "mudlark/mudlarklaw16.PassSteps", spec := "passSteps", inPlace := ["sync/atomic.StoreUint64", "sync/atomic.LoadUint64", "sync/atomic.CompareAndSwapUint64", "sync/atomic.AddUint64"], unfollowed := true, recurses := true, apart := false, narrowed := true }
def PassStepsUptoSaid : Prop := passStepsUptoRow.holds Try.pinned (OpenSpec.upto passStepsSpec)

/-- 'mudlarklaw16.PassGreys', WHERE WHAT IT READS IS OF BULK AT MOST 1048576: true; the input reads as it did. -/
def passGreysUptoRow : OpenClaim := { program := "yteggckdgjecfmaa", sum := "78d2bbf1e9374b581e4dfbef2c4bdc5a36a62a1a9721269ec56ee2b2671495c8", func := "mudlark/mudlarklaw16.PassGreys", spec := "passGreys", inPlace := ["sync/atomic.StoreUint64", "sync/atomic.LoadUint64", "sync/atomic.CompareAndSwapUint64", "sync/atomic.AddUint64"], unfollowed := true, recurses := true, apart := false, narrowed := true }
def PassGreysUptoSaid : Prop := passGreysUptoRow.holds Try.pinned (OpenSpec.upto passGreysSpec)

/-- 'mudlarklaw16.PassMarks', WHERE WHAT IT READS IS OF BULK AT MOST 1048576: true; the input reads as it did. -/
def passMarksUptoRow : OpenClaim := { program := "yteggckdgjecfmaa", sum := "78d2bbf1e9374b581e4dfbef2c4bdc5a36a62a1a9721269ec56ee2b2671495c8", func := "mudlark/mudlarklaw16.PassMarks", spec := "passMarks", inPlace := ["sync/atomic.StoreUint64", "sync/atomic.LoadUint64", "sync/atomic.CompareAndSwapUint64", "sync/atomic.AddUint64"], unfollowed := true, recurses := true, apart := false, narrowed := true }
def PassMarksUptoSaid : Prop := passMarksUptoRow.holds Try.pinned (OpenSpec.upto passMarksSpec)

/-- 'mudlarklaw16.PassQuiet', WHERE WHAT IT READS IS OF BULK AT MOST 1048576: true; the input reads as it did. -/
def passQuietUptoRow : OpenClaim := { program := "yteggckdgjecfmaa", sum := "78d2bbf1e9374b581e4dfbef2c4bdc5a36a62a1a9721269ec56ee2b2671495c8", func := "mudlark/mudlarklaw16.PassQuiet", spec := "passQuiet", inPlace := ["sync/atomic.StoreUint64", "sync/atomic.LoadUint64", "sync/atomic.CompareAndSwapUint64", "sync/atomic.AddUint64"], unfollowed := true, recurses := true, apart := false, narrowed := true }
def PassQuietUptoSaid : Prop := passQuietUptoRow.holds Try.pinned (OpenSpec.upto passQuietSpec)

/-- 'mudlarklaw19.CollectorSteps', WHERE WHAT IT READS IS OF BULK AT MOST 1048576: true; the input reads as it did. -/
def collectorStepsUptoRow : OpenClaim := { program := "yteggckdgjecfmaa", sum := "78d2bbf1e9374b581e4dfbef2c4bdc5a36a62a1a9721269ec56ee2b2671495c8", func := "mudlark/mudlarklaw19.CollectorSteps", spec := "collectorSteps", inPlace := ["sync/atomic.StoreUint64", "sync/atomic.LoadUint64", "sync/atomic.CompareAndSwapUint64", "sync/atomic.AddUint64"], unfollowed := true, recurses := true, apart := false, narrowed := true }
def CollectorStepsUptoSaid : Prop := collectorStepsUptoRow.holds Try.pinned (OpenSpec.upto collectorStepsSpec)

/-- 'mudlarklaw19.CollectorCycles', WHERE WHAT IT READS IS OF BULK AT MOST 1048576: true; the input reads as it did. -/
def collectorCyclesUptoRow : OpenClaim := { program := "yteggckdgjecfmaa", sum := "78d2bbf1e9374b581e4dfbef2c4bdc5a36a62a1a9721269ec56ee2b2671495c8", func := "mudlark/mudlarklaw19.CollectorCycles", spec := "collectorCycles", inPlace := ["sync/atomic.StoreUint64", "sync/atomic.LoadUint64", "sync/atomic.CompareAndSwapUint64", "sync/atomic.AddUint64"], unfollowed := true, recurses := true, apart := false, narrowed := true }
def CollectorCyclesUptoSaid : Prop := collectorCyclesUptoRow.holds Try.pinned (OpenSpec.upto collectorCyclesSpec)

/-- 'mudlarklaw14.LispTouches', WHERE WHAT IT READS IS OF BULK AT MOST 1048576: true; the input reads as it did. -/
def lispTouchesUptoRow : OpenClaim := { program := "yteggckdgjecfmaa", sum := "78d2bbf1e9374b581e4dfbef2c4bdc5a36a62a1a9721269ec56ee2b2671495c8", func := "mudlark/mudlarklaw14.LispTouches", spec := "lispTouches", inPlace := ["sync/atomic.StoreUint64", "sync/atomic.LoadUint64", "sync/atomic.CompareAndSwapUint64", "sync/atomic.AddUint64"], unfollowed := true, recurses := true, apart := false, narrowed := true }
def LispTouchesUptoSaid : Prop := lispTouchesUptoRow.holds Try.pinned (OpenSpec.upto lispTouchesSpec)

/-- 'mudlarklaw14.LispHolds', WHERE WHAT IT READS IS OF BULK AT MOST 1048576: true; the input reads as it did. -/
def lispHoldsUptoRow : OpenClaim := { program := "yteggckdgjecfmaa", sum := "78d2bbf1e9374b581e4dfbef2c4bdc5a36a62a1a9721269ec56ee2b2671495c8", func := "mudlark/mudlarklaw14.LispHolds", spec := "lispHolds", inPlace := ["sync/atomic.StoreUint64", "sync/atomic.LoadUint64", "sync/atomic.CompareAndSwapUint64", "sync/atomic.AddUint64"], unfollowed := true, recurses := true, apart := false, narrowed := true }
def LispHoldsUptoSaid : Prop := lispHoldsUptoRow.holds Try.pinned (OpenSpec.upto lispHoldsSpec)

end Rows
end Go.Proofs.Yteggckdgjecfmaa
