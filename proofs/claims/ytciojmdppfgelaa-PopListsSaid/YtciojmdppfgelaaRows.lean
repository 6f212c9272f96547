/-
  No cell of these rows narrows 'for every input' (looked for: loops, veiled, ifaces, maps, wideKeys, modest, calm, conditions, laid).
  DERIVED. THE GIVEN ROWS OF THIS SEAT. 12 by the template 'for every input the law returns true; each argument reads behind the call as it read before'; 0 by the template 'total and deterministic' (their statements: YtciojmdppfgelaaTotals.lean).
  GIVEN WITH THE SEED: the statements are not yours to turn. If you find one false, say at which input.
  Laid BY PROGRAM, IN A SANDBOX (cutbox-rows.mjs): the forced cells as the released guide's own fill.sh prints them over the translation 11d3dd768e823236… (all of the seat's roots in one cut). By AI agents, Wed Nov 11 2026. No macro, syntax, notation, axiom, sorry.
-/
import Derived.Test.YtciojmdppfgelaaChecked
import GoSem.Claim
import GoSem.ClaimJoined
import GoSem.ClaimMapViews
import Derived.JoinedTies
import Derived.KernelRfl
namespace Go.Proofs.Ytciojmdppfgelaa
/- THE CELL 'sum', in the pinned program and in every row, IS THE sha256 OF THE DUMP (.gsa) THAT YtciojmdppfgelaaProg.lean LOADS. Nothing in Lean hashes anything: it is a label: what it is worth is what the hold of that sum in a sandbox is worth. -/
noncomputable def Try.pinned : Pinned := { name := "ytciojmdppfgelaa", sum := "11d3dd768e823236126a9c8a4759f1f43ee7cf8dab9726383a97fcabd9978130", checked := Try.checked }
namespace Rows
def none {H : Type} : Left H := { results := [], args := [] }

/-- 'mudlarklaw27.RoundsSum': WHATEVER THE INPUT: true; the input reads as it did. -/
def roundsSumSpec : ChangeSpec := { name := "roundsSum", fn := fun _ => fun
  | [d1, d2, d3] => { results := [.lit (.bool true)], args := [d1, d2, d3] }
  | _ => none }
def roundsSumRow : OpenClaim := { program := "ytciojmdppfgelaa", sum := "11d3dd768e823236126a9c8a4759f1f43ee7cf8dab9726383a97fcabd9978130", func := "mudlark/mudlarklaw27.RoundsSum", spec := "roundsSum", apart := false }
def RoundsSumSaid : Prop := roundsSumRow.holds Try.pinned (OpenSpec.ofChange roundsSumSpec)

/-- ITS FALSE NEIGHBOUR: 'it returns false'. Refute it at one input. -/
def roundsSumWrong : ChangeSpec := { name := "roundsSum", fn := fun _ => fun
  | [d1, d2, d3] => { results := [.lit (.bool false)], args := [d1, d2, d3] }
  | _ => none }
def RoundsSumWrongFalsely : Prop := roundsSumRow.holds Try.pinned (OpenSpec.ofChange roundsSumWrong)

/-- 'mudlarklaw27.RoundsClocks': WHATEVER THE INPUT: true; the input reads as it did. -/
def roundsClocksSpec : ChangeSpec := { name := "roundsClocks", fn := fun _ => fun
  | [d1, d2, d3] => { results := [.lit (.bool true)], args := [d1, d2, d3] }
  | _ => none }
def roundsClocksRow : OpenClaim := { program := "ytciojmdppfgelaa", sum := "11d3dd768e823236126a9c8a4759f1f43ee7cf8dab9726383a97fcabd9978130", func := "mudlark/mudlarklaw27.RoundsClocks", spec := "roundsClocks", apart := false }
def RoundsClocksSaid : Prop := roundsClocksRow.holds Try.pinned (OpenSpec.ofChange roundsClocksSpec)

/-- ITS FALSE NEIGHBOUR: 'it returns false'. Refute it at one input. -/
def roundsClocksWrong : ChangeSpec := { name := "roundsClocks", fn := fun _ => fun
  | [d1, d2, d3] => { results := [.lit (.bool false)], args := [d1, d2, d3] }
  | _ => none }
def RoundsClocksWrongFalsely : Prop := roundsClocksRow.holds Try.pinned (OpenSpec.ofChange roundsClocksWrong)

/-- 'mudlarklaw13.PopLists': WHATEVER THE INPUT: true; the input reads as it did. -/
def popListsSpec : ChangeSpec := { name := "popLists", fn := fun _ => fun
  | [d1, d2] => { results := [.lit (.bool true)], args := [d1, d2] }
  | _ => none }
def popListsRow : OpenClaim := { program := "ytciojmdppfgelaa", sum := "11d3dd768e823236126a9c8a4759f1f43ee7cf8dab9726383a97fcabd9978130", func := "mudlark/mudlarklaw13.PopLists", spec := "popLists", apart := false }
def PopListsSaid : Prop := popListsRow.holds Try.pinned (OpenSpec.ofChange popListsSpec)

/-- ITS FALSE NEIGHBOUR: 'it returns false'. Refute it at one input. -/
def popListsWrong : ChangeSpec := { name := "popLists", fn := fun _ => fun
  | [d1, d2] => { results := [.lit (.bool false)], args := [d1, d2] }
  | _ => none }
def PopListsWrongFalsely : Prop := popListsRow.holds Try.pinned (OpenSpec.ofChange popListsWrong)

/-- 'mudlarklaw31.ReplayGoes': WHATEVER THE INPUT: true; the input reads as it did. -/
def replayGoesSpec : ChangeSpec := { name := "replayGoes", fn := fun _ => fun
  | [d1, d2] => { results := [.lit (.bool true)], args := [d1, d2] }
  | _ => none }
def replayGoesRow : OpenClaim := { program := "ytciojmdppfgelaa", sum := "11d3dd768e823236126a9c8a4759f1f43ee7cf8dab9726383a97fcabd9978130", func := "mudlark/mudlarklaw31.ReplayGoes", spec := "replayGoes", inPlace := ["sync/atomic.StoreUint64", "sync/atomic.LoadUint64", "sync/atomic.CompareAndSwapUint64", "sync/atomic.AddUint64"], unfollowed := true, recurses := true, apart := false }
def ReplayGoesSaid : Prop := replayGoesRow.holds Try.pinned (OpenSpec.ofChange replayGoesSpec)

/-- ITS FALSE NEIGHBOUR: 'it returns false'. Refute it at one input. -/
def replayGoesWrong : ChangeSpec := { name := "replayGoes", fn := fun _ => fun
  | [d1, d2] => { results := [.lit (.bool false)], args := [d1, d2] }
  | _ => none }
def ReplayGoesWrongFalsely : Prop := replayGoesRow.holds Try.pinned (OpenSpec.ofChange replayGoesWrong)

/-- 'mudlarklaw11.TicketQueue': WHATEVER THE INPUT: true; the input reads as it did. -/
def ticketQueueSpec : ChangeSpec := { name := "ticketQueue", fn := fun _ => fun
  | [d1, d2, d3] => { results := [.lit (.bool true)], args := [d1, d2, d3] }
  | _ => none }
def ticketQueueRow : OpenClaim := { program := "ytciojmdppfgelaa", sum := "11d3dd768e823236126a9c8a4759f1f43ee7cf8dab9726383a97fcabd9978130", func := "mudlark/mudlarklaw11.TicketQueue", spec := "ticketQueue", inPlace := ["sync/atomic.StoreUint64", "sync/atomic.LoadUint64", "sync/atomic.CompareAndSwapUint64", "sync/atomic.AddUint64"], unfollowed := true, recurses := true, apart := false }
def TicketQueueSaid : Prop := ticketQueueRow.holds Try.pinned (OpenSpec.ofChange ticketQueueSpec)

/-- ITS FALSE NEIGHBOUR: 'it returns false'. Refute it at one input. -/
def ticketQueueWrong : ChangeSpec := { name := "ticketQueue", fn := fun _ => fun
  | [d1, d2, d3] => { results := [.lit (.bool false)], args := [d1, d2, d3] }
  | _ => none }
def TicketQueueWrongFalsely : Prop := ticketQueueRow.holds Try.pinned (OpenSpec.ofChange ticketQueueWrong)

/-- 'mudlarklaw31.ReplayPlaces': WHATEVER THE INPUT: true; the input reads as it did. -/
def replayPlacesSpec : ChangeSpec := { name := "replayPlaces", fn := fun _ => fun
  | [d1, d2] => { results := [.lit (.bool true)], args := [d1, d2] }
  | _ => none }
def replayPlacesRow : OpenClaim := { program := "ytciojmdppfgelaa", sum := "11d3dd768e823236126a9c8a4759f1f43ee7cf8dab9726383a97fcabd9978130", func := "mudlark/mudlarklaw31.ReplayPlaces", spec := "replayPlaces", inPlace := ["sync/atomic.StoreUint64", "sync/atomic.LoadUint64", "sync/atomic.CompareAndSwapUint64", "sync/atomic.AddUint64"], unfollowed := true, recurses := true, apart := false }
def ReplayPlacesSaid : Prop := replayPlacesRow.holds Try.pinned (OpenSpec.ofChange replayPlacesSpec)

/-- ITS FALSE NEIGHBOUR: 'it returns false'. Refute it at one input. -/
def replayPlacesWrong : ChangeSpec := { name := "replayPlaces", fn := fun _ => fun
  | [d1, d2] => { results := [.lit (.bool false)], args := [d1, d2] }
  | _ => none }
def ReplayPlacesWrongFalsely : Prop := replayPlacesRow.holds Try.pinned (OpenSpec.ofChange replayPlacesWrong)

/-- 'mudlarklaw11.TicketSteps': WHATEVER THE INPUT: true; the input reads as it did. -/
def ticketStepsSpec : ChangeSpec := { name := "ticketSteps", fn := fun _ => fun
  | [d1, d2, d3, d4] => { results := [.lit (.bool true)], args := [d1, d2, d3, d4] }
  | _ => none }
def ticketStepsRow : OpenClaim := { program := "ytciojmdppfgelaa", sum := "11d3dd768e823236126a9c8a4759f1f43ee7cf8dab9726383a97fcabd9978130", func := "mudlark/mudlarklaw11.TicketSteps", spec := "ticketSteps", inPlace := ["sync/atomic.StoreUint64", "sync/atomic.LoadUint64", "sync/atomic.CompareAndSwapUint64", "sync/atomic.AddUint64"], apart := false }
def TicketStepsSaid : Prop := ticketStepsRow.holds Try.pinned (OpenSpec.ofChange ticketStepsSpec)

/-- ITS FALSE NEIGHBOUR: 'it returns false'. Refute it at one input. -/
def ticketStepsWrong : ChangeSpec := { name := "ticketSteps", fn := fun _ => fun
  | [d1, d2, d3, d4] => { results := [.lit (.bool false)], args := [d1, d2, d3, d4] }
  | _ => none }
def TicketStepsWrongFalsely : Prop := ticketStepsRow.holds Try.pinned (OpenSpec.ofChange ticketStepsWrong)

/-- 'mudlarklaw07.HandPlays': WHATEVER THE INPUT: true; the input reads as it did. -/
def handPlaysSpec : ChangeSpec := { name := "handPlays", fn := fun _ => fun
  | [d1, d2, d3] => { results := [.lit (.bool true)], args := [d1, d2, d3] }
  | _ => none }
def handPlaysRow : OpenClaim := { program := "ytciojmdppfgelaa", sum := "11d3dd768e823236126a9c8a4759f1f43ee7cf8dab9726383a97fcabd9978130", func := "mudlark/mudlarklaw07.HandPlays", spec := "handPlays", inPlace := ["sync/atomic.StoreUint64", "sync/atomic.LoadUint64", "sync/atomic.CompareAndSwapUint64", "sync/atomic.AddUint64"], apart := false }
def HandPlaysSaid : Prop := handPlaysRow.holds Try.pinned (OpenSpec.ofChange handPlaysSpec)

/-- ITS FALSE NEIGHBOUR: 'it returns false'. Refute it at one input. -/
def handPlaysWrong : ChangeSpec := { name := "handPlays", fn := fun _ => fun
  | [d1, d2, d3] => { results := [.lit (.bool false)], args := [d1, d2, d3] }
  | _ => none }
def HandPlaysWrongFalsely : Prop := handPlaysRow.holds Try.pinned (OpenSpec.ofChange handPlaysWrong)

/-- 'mudlarklaw07.HandLast': WHATEVER THE INPUT: true; the input reads as it did. -/
def handLastSpec : ChangeSpec := { name := "handLast", fn := fun _ => fun
  | [d1, d2] => { results := [.lit (.bool true)], args := [d1, d2] }
  | _ => none }
def handLastRow : OpenClaim := { program := "ytciojmdppfgelaa", sum := "11d3dd768e823236126a9c8a4759f1f43ee7cf8dab9726383a97fcabd9978130", func := "mudlark/mudlarklaw07.HandLast", spec := "handLast", inPlace := ["sync/atomic.StoreUint64", "sync/atomic.LoadUint64", "sync/atomic.CompareAndSwapUint64", "sync/atomic.AddUint64"], apart := false }
def HandLastSaid : Prop := handLastRow.holds Try.pinned (OpenSpec.ofChange handLastSpec)

/-- ITS FALSE NEIGHBOUR: 'it returns false'. Refute it at one input. -/
def handLastWrong : ChangeSpec := { name := "handLast", fn := fun _ => fun
  | [d1, d2] => { results := [.lit (.bool false)], args := [d1, d2] }
  | _ => none }
def HandLastWrongFalsely : Prop := handLastRow.holds Try.pinned (OpenSpec.ofChange handLastWrong)

/-- 'mudlarklaw07.HandFields': WHATEVER THE INPUT: true; the input reads as it did. -/
def handFieldsSpec : ChangeSpec := { name := "handFields", fn := fun _ => fun
  | [d1, d2, d3] => { results := [.lit (.bool true)], args := [d1, d2, d3] }
  | _ => none }
def handFieldsRow : OpenClaim := { program := "ytciojmdppfgelaa", sum := "11d3dd768e823236126a9c8a4759f1f43ee7cf8dab9726383a97fcabd9978130", func := "mudlark/mudlarklaw07.HandFields", spec := "handFields", inPlace := ["sync/atomic.StoreUint64", "sync/atomic.LoadUint64", "sync/atomic.CompareAndSwapUint64", "sync/atomic.AddUint64"], apart := false }
def HandFieldsSaid : Prop := handFieldsRow.holds Try.pinned (OpenSpec.ofChange handFieldsSpec)

/-- ITS FALSE NEIGHBOUR: 'it returns false'. Refute it at one input. -/
def handFieldsWrong : ChangeSpec := { name := "handFields", fn := fun _ => fun
  | [d1, d2, d3] => { results := [.lit (.bool false)], args := [d1, d2, d3] }
  | _ => none }
def HandFieldsWrongFalsely : Prop := handFieldsRow.holds Try.pinned (OpenSpec.ofChange handFieldsWrong)

/-- 'mudlarklaw12.GateKeeps': WHATEVER THE INPUT: true; the input reads as it did. -/
def gateKeepsSpec : ChangeSpec := { name := "gateKeeps", fn := fun _ => fun
  | [d1, d2] => { results := [.lit (.bool true)], args := [d1, d2] }
  | _ => none }
def gateKeepsRow : OpenClaim := { program := "ytciojmdppfgelaa", sum := "11d3dd768e823236126a9c8a4759f1f43ee7cf8dab9726383a97fcabd9978130", func := "mudlark/mudlarklaw12.GateKeeps", spec := "gateKeeps", inPlace := ["sync/atomic.StoreUint64", "sync/atomic.LoadUint64", "sync/atomic.CompareAndSwapUint64", "sync/atomic.AddUint64"], unfollowed := true, recurses := true, apart := false }
def GateKeepsSaid : Prop := gateKeepsRow.holds Try.pinned (OpenSpec.ofChange gateKeepsSpec)

/-- ITS FALSE NEIGHBOUR: 'it returns false'. Refute it at one input. -/
def gateKeepsWrong : ChangeSpec := { name := "gateKeeps", fn := fun _ => fun
  | [d1, d2] => { results := [.lit (.bool false)], args := [d1, d2] }
  | _ => none }
def GateKeepsWrongFalsely : Prop := gateKeepsRow.holds Try.pinned (OpenSpec.ofChange gateKeepsWrong)

/-- 'mudlarklaw12.GateGrows': WHATEVER THE INPUT: true; the input reads as it did. -/
def gateGrowsSpec : ChangeSpec := { name := "gateGrows", fn := fun _ => fun
  | [d1, d2] => { results := [.lit (.bool true)], args := [d1, d2] }
  | _ => none }
def gateGrowsRow : OpenClaim := { program := "ytciojmdppfgelaa", sum := "11d3dd768e823236126a9c8a4759f1f43ee7cf8dab9726383a97fcabd9978130", func := "mudlark/mudlarklaw12.GateGrows", spec := "gateGrows", inPlace := ["sync/atomic.StoreUint64", "sync/atomic.LoadUint64", "sync/atomic.CompareAndSwapUint64", "sync/atomic.AddUint64"], unfollowed := true, recurses := true, apart := false }
def GateGrowsSaid : Prop := gateGrowsRow.holds Try.pinned (OpenSpec.ofChange gateGrowsSpec)

/-- ITS FALSE NEIGHBOUR: 'it returns false'. Refute it at one input. -/
def gateGrowsWrong : ChangeSpec := { name := "gateGrows", fn := fun _ => fun
  | [d1, d2] => { results := [.lit (.bool false)], args := [d1, d2] }
  | _ => none }
def GateGrowsWrongFalsely : Prop := gateGrowsRow.holds Try.pinned (OpenSpec.ofChange gateGrowsWrong)

/- THE SECOND FORM. 'bulk': how many values and letters a reading holds, each counted each time it is reached (what is shared counts as often as it is met; a slice's spare places count too). A statement '..UptoSaid' is the law's where the arguments, and the package variables that the reading takes, are together of bulk at most 1048576: NARROWER than '..Said'. Prove '..Said' where nothing that the law and all that it calls make is longer than what came in: it says more and counts as full. Else prove '..UptoSaid'. A law counts once. -/
mutual
def uptoBulk {H : Type} : DataW H → Nat
  | .lit (.string bytes) => bytes.length + 1
  | .lit _ => 1
  | .nil => 1
  | .ptr d => uptoBulk d + 1
  | .slice elems spare => uptoBulkAll elems + uptoBulkAll spare + 1
  | .agg parts => uptoBulkAll parts + 1
  | .iface _ d => uptoBulk d + 1
  | .map entries => uptoBulkEntries entries + 1
  | .held _ => 1
def uptoBulkAll {H : Type} : List (DataW H) → Nat
  | [] => 0
  | d :: r => uptoBulk d + uptoBulkAll r
def uptoBulkEntries {H : Type} : List (Lit × DataW H) → Nat
  | [] => 0
  | x :: r => uptoBulkEntry x + uptoBulkEntries r
def uptoBulkEntry {H : Type} : Lit × DataW H → Nat
  | (.string bytes, d) => bytes.length + uptoBulk d + 1
  | (_, d) => uptoBulk d + 1
 end
def uptoSmall : (H : Type) → List (DataW H) → Bool := fun _ ds => decide (uptoBulkAll ds ≤ 1048576)
def OpenSpec.upto (s : _root_.Go.ChangeSpec) : _root_.Go.OpenSpec := { _root_.Go.OpenSpec.ofChange s with cond := some uptoSmall }

/-- 'mudlarklaw27.RoundsSum', WHERE WHAT IT READS IS OF BULK AT MOST 1048576: true; the input reads as it did. -/
def roundsSumUptoRow : OpenClaim := { program := "ytciojmdppfgelaa", sum := "11d3dd768e823236126a9c8a4759f1f43ee7cf8dab9726383a97fcabd9978130", func := "mudlark/mudlarklaw27.RoundsSum", spec := "roundsSum", apart := false, narrowed := true }
def RoundsSumUptoSaid : Prop := roundsSumUptoRow.holds Try.pinned (OpenSpec.upto roundsSumSpec)

/-- 'mudlarklaw27.RoundsClocks', WHERE WHAT IT READS IS OF BULK AT MOST 1048576: true; the input reads as it did. -/
def roundsClocksUptoRow : OpenClaim := { program := "ytciojmdppfgelaa", sum := "11d3dd768e823236126a9c8a4759f1f43ee7cf8dab9726383a97fcabd9978130", func := "mudlark/mudlarklaw27.RoundsClocks", spec := "roundsClocks", apart := false, narrowed := true }
def RoundsClocksUptoSaid : Prop := roundsClocksUptoRow.holds Try.pinned (OpenSpec.upto roundsClocksSpec)

/-- 'mudlarklaw13.PopLists', WHERE WHAT IT READS IS OF BULK AT MOST 1048576: true; the input reads as it did. -/
def popListsUptoRow : OpenClaim := { program := "ytciojmdppfgelaa", sum := "11d3dd768e823236126a9c8a4759f1f43ee7cf8dab9726383a97fcabd9978130", func := "mudlark/mudlarklaw13.PopLists", spec := "popLists", apart := false, narrowed := true }
def PopListsUptoSaid : Prop := popListsUptoRow.holds Try.pinned (OpenSpec.upto popListsSpec)

/-- 'mudlarklaw31.ReplayGoes', WHERE WHAT IT READS IS OF BULK AT MOST 1048576: true; the input reads as it did. -/
def replayGoesUptoRow : OpenClaim := { program := "ytciojmdppfgelaa", sum := "11d3dd768e823236126a9c8a4759f1f43ee7cf8dab9726383a97fcabd9978130", func := "mudlark/mudlarklaw31.ReplayGoes", spec := "replayGoes", inPlace := ["sync/atomic.StoreUint64", "sync/atomic.LoadUint64", "sync/atomic.CompareAndSwapUint64", "sync/atomic.AddUint64"], unfollowed := true, recurses := true, apart := false, narrowed := true }
def ReplayGoesUptoSaid : Prop := replayGoesUptoRow.holds Try.pinned (OpenSpec.upto replayGoesSpec)

/-- 'mudlarklaw11.TicketQueue', WHERE WHAT IT READS IS OF BULK AT MOST 1048576: true; the input reads as it did. -/
def ticketQueueUptoRow : OpenClaim := { program := "ytciojmdppfgelaa", sum := "11d3dd768e823236126a9c8a4759f1f43ee7cf8dab9726383a97fcabd9978130", func := "mudlark/mudlarklaw11.TicketQueue", spec := "ticketQueue", inPlace := ["sync/atomic.StoreUint64", "sync/atomic.LoadUint64", "sync/atomic.CompareAndSwapUint64", "sync/atomic.AddUint64"], unfollowed := true, recurses := true, apart := false, narrowed := true }
def TicketQueueUptoSaid : Prop := ticketQueueUptoRow.holds Try.pinned (OpenSpec.upto ticketQueueSpec)

/-- 'mudlarklaw31.ReplayPlaces', WHERE WHAT IT READS IS OF BULK AT MOST 1048576: true; the input reads as it did. -/
def replayPlacesUptoRow : OpenClaim := { program := "ytciojmdppfgelaa", sum := "11d3dd768e823236126a9c8a4759f1f43ee7cf8dab9726383a97fcabd9978130", func := "mudlark/mudlarklaw31.ReplayPlaces", spec := "replayPlaces", inPlace := ["sync/atomic.StoreUint64", "sync/atomic.LoadUint64", "sync/atomic.CompareAndSwapUint64", "sync/atomic.AddUint64"], unfollowed := true, recurses := true, apart := false, narrowed := true }
def ReplayPlacesUptoSaid : Prop := replayPlacesUptoRow.holds Try.pinned (OpenSpec.upto replayPlacesSpec)

/-- 'mudlarklaw11.TicketSteps', WHERE WHAT IT READS IS OF BULK AT MOST 1048576: true; the input reads as it did. -/
def ticketStepsUptoRow : OpenClaim := { program := "ytciojmdppfgelaa", sum := "11d3dd768e823236126a9c8a4759f1f43ee7cf8dab9726383a97fcabd9978130", func := "mudlark/mudlarklaw11.TicketSteps", spec := "ticketSteps", inPlace := ["sync/atomic.StoreUint64", "sync/atomic.LoadUint64", "sync/atomic.CompareAndSwapUint64", "sync/atomic.AddUint64"], apart := false, narrowed := true }
def TicketStepsUptoSaid : Prop := ticketStepsUptoRow.holds Try.pinned (OpenSpec.upto ticketStepsSpec)

/-- 'mudlarklaw07.HandPlays', WHERE WHAT IT READS IS OF BULK AT MOST 1048576: true; the input reads as it did. -/
def handPlaysUptoRow : OpenClaim := { program := "ytciojmdppfgelaa", sum := "11d3dd768e823236126a9c8a4759f1f43ee7cf8dab9726383a97fcabd9978130", func := "mudlark/mudlarklaw07.HandPlays", spec := "handPlays", inPlace := ["sync/atomic.StoreUint64", "sync/atomic.LoadUint64", "sync/atomic.CompareAndSwapUint64", "sync/atomic.AddUint64"], apart := false, narrowed := true }
def HandPlaysUptoSaid : Prop := handPlaysUptoRow.holds Try.pinned (OpenSpec.upto handPlaysSpec)

/-- 'mudlarklaw07.HandLast', WHERE WHAT IT READS IS OF BULK AT MOST 1048576: true; the input reads as it did. -/
def handLastUptoRow : OpenClaim := { program := "ytciojmdppfgelaa", sum := "11d3dd768e823236126a9c8a4759f1f43ee7cf8dab9726383a97fcabd9978130", func := "mudlark/mudlarklaw07.HandLast", spec := "handLast", inPlace := ["sync/atomic.StoreUint64", "sync/atomic.LoadUint64", "sync/atomic.CompareAndSwapUint64", "sync/atomic.AddUint64"], apart := false, narrowed := true }
def HandLastUptoSaid : Prop := handLastUptoRow.holds Try.pinned (OpenSpec.upto handLastSpec)

/-- 'mudlarklaw07.HandFields', WHERE WHAT IT READS IS OF BULK AT MOST 1048576: true; the input reads as it did. -/
def handFieldsUptoRow : OpenClaim := { program := "ytciojmdppfgelaa", sum := "11d3dd768e823236126a9c8a4759f1f43ee7cf8dab9726383a97fcabd9978130", func := "mudlark/mudlarklaw07.HandFields", spec := "handFields", inPlace := ["sync/atomic.StoreUint64", "sync/atomic.LoadUint64", "sync/atomic.CompareAndSwapUint64", "sync/atomic.AddUint64"], apart := false, narrowed := true }
def HandFieldsUptoSaid : Prop := handFieldsUptoRow.holds Try.pinned (OpenSpec.upto handFieldsSpec)

/-- 'mudlarklaw12.GateKeeps', WHERE WHAT IT READS IS OF BULK AT MOST 1048576: true; the input reads as it did. -/
def gateKeepsUptoRow : OpenClaim := { program := "ytciojmdppfgelaa", sum := "11d3dd768e823236126a9c8a4759f1f43ee7cf8dab9726383a97fcabd9978130", func := "mudlark/mudlarklaw12.GateKeeps", spec := "gateKeeps", inPlace := ["sync/atomic.StoreUint64", "sync/atomic.LoadUint64", "sync/atomic.CompareAndSwapUint64", "sync/atomic.AddUint64"], unfollowed := true, recurses := true, apart := false, narrowed := true }
def GateKeepsUptoSaid : Prop := gateKeepsUptoRow.holds Try.pinned (OpenSpec.upto gateKeepsSpec)

/-- 'mudlarklaw12.GateGrows', WHERE WHAT IT READS IS OF BULK AT MOST 1048576: true; the input reads as it did. -/
def gateGrowsUptoRow : OpenClaim := { program := "ytciojmdppfgelaa", sum := "11d3dd768e823236126a9c8a4759f1f43ee7cf8dab9726383a97fcabd9978130", func := "mudlark/mudlarklaw12.GateGrows", spec := "gateGrows", inPlace := ["sync/atomic.StoreUint64", "sync/atomic.LoadUint64", "sync/atomic.CompareAndSwapUint64", "sync/atomic.AddUint64"], unfollowed := true, recurses := true, apart := false, narrowed := true }
def GateGrowsUptoSaid : Prop := gateGrowsUptoRow.holds Try.pinned (OpenSpec.upto gateGrowsSpec)

end Rows
end Go.Proofs.Ytciojmdppfgelaa
