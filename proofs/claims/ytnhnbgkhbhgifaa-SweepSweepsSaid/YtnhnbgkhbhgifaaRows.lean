/-
  No cell of these rows narrows 'for every input' (looked for: loops, veiled, ifaces, maps, wideKeys, modest, calm, conditions, laid).
  DERIVED. THE GIVEN ROWS OF THIS SEAT. 11 by the template 'for every input the law returns true; each argument reads behind the call as it read before'; 0 by the template 'total and deterministic' (their statements: YtnhnbgkhbhgifaaTotals.lean).
  GIVEN WITH THE SEED: the statements are not yours to turn. If you find one false, say at which input.
  Laid BY PROGRAM, IN A SANDBOX (cutbox-rows.mjs): the forced cells as the released guide's own fill.sh prints them over the translation 000447db6cbfaef0… (all of the seat's roots in one cut). By AI agents, Wed Nov 11 2026. No macro, syntax, notation, axiom, sorry.
-/
import Derived.Test.YtnhnbgkhbhgifaaChecked
import GoSem.Claim
import GoSem.ClaimJoined
import GoSem.ClaimMapViews
import Derived.JoinedTies
import Derived.KernelRfl
namespace Go.Proofs.Ytnhnbgkhbhgifaa
/- THE CELL 'sum', in the pinned program and in every row, IS THE sha256 OF THE DUMP (.gsa) THAT YtnhnbgkhbhgifaaProg.lean LOADS. Nothing in Lean hashes anything: it is a label: what it is worth is what the hold of that sum in a sandbox is worth. -/
noncomputable def Try.pinned : Pinned := { name := "ytnhnbgkhbhgifaa", sum := "000447db6cbfaef04eb51cb14c83dad690fcc915f1845d2c46024b601bbc8533", checked := Try.checked }
namespace Rows
def none {H : Type} : Left H := { results := [], args := [] }

/-- 'mudlarklaw31.ReplayGoes': WHATEVER THE INPUT: true; the input reads as it did. -/
def replayGoesSpec : ChangeSpec := { name := "replayGoes", fn := fun _ => fun
  | [d1, d2] => { results := [.lit (.bool true)], args := [d1, d2] }
  | _ => none }
def replayGoesRow : OpenClaim := { program := "ytnhnbgkhbhgifaa", sum := "000447db6cbfaef04eb51cb14c83dad690fcc915f1845d2c46024b601bbc8533", func := "mudlark/mudlarklaw31.ReplayGoes", spec := "replayGoes", inPlace := ["sync/atomic.StoreUint64", "sync/atomic.LoadUint64", "sync/atomic.CompareAndSwapUint64", "sync/atomic.AddUint64"], unfollowed := true, recurses := true, apart := false }
def ReplayGoesSaid : Prop := replayGoesRow.holds Try.pinned (OpenSpec.ofChange replayGoesSpec)

/-- ITS FALSE NEIGHBOUR: 'it returns false'. Refute it at one input. -/
def replayGoesWrong : ChangeSpec := { name := "replayGoes", fn := fun _ => fun
  | [d1, d2] => { results := [.lit (.bool false)], args := [d1, d2] }
  | _ => none }
def ReplayGoesWrongFalsely : Prop := replayGoesRow.holds Try.pinned (OpenSpec.ofChange replayGoesWrong)

/-- 'mudlarklaw31.ReplayPlaces': WHATEVER THE INPUT: true; the input reads as it did. -/
def replayPlacesSpec : ChangeSpec := { name := "replayPlaces", fn := fun _ => fun
  | [d1, d2] => { results := [.lit (.bool true)], args := [d1, d2] }
  | _ => none }
def replayPlacesRow : OpenClaim := { program := "ytnhnbgkhbhgifaa", sum := "000447db6cbfaef04eb51cb14c83dad690fcc915f1845d2c46024b601bbc8533", func := "mudlark/mudlarklaw31.ReplayPlaces", spec := "replayPlaces", inPlace := ["sync/atomic.StoreUint64", "sync/atomic.LoadUint64", "sync/atomic.CompareAndSwapUint64", "sync/atomic.AddUint64"], unfollowed := true, recurses := true, apart := false }
def ReplayPlacesSaid : Prop := replayPlacesRow.holds Try.pinned (OpenSpec.ofChange replayPlacesSpec)

/-- ITS FALSE NEIGHBOUR: 'it returns false'. Refute it at one input. -/
def replayPlacesWrong : ChangeSpec := { name := "replayPlaces", fn := fun _ => fun
  | [d1, d2] => { results := [.lit (.bool false)], args := [d1, d2] }
  | _ => none }
def ReplayPlacesWrongFalsely : Prop := replayPlacesRow.holds Try.pinned (OpenSpec.ofChange replayPlacesWrong)

/-- 'mudlarklaw11.TicketQueue': WHATEVER THE INPUT: true; the input reads as it did. -/
def ticketQueueSpec : ChangeSpec := { name := "ticketQueue", fn := fun _ => fun
  | [d1, d2, d3] => { results := [.lit (.bool true)], args := [d1, d2, d3] }
  | _ => none }
def ticketQueueRow : OpenClaim := { program := "ytnhnbgkhbhgifaa", sum := "000447db6cbfaef04eb51cb14c83dad690fcc915f1845d2c46024b601bbc8533", func := "mudlark/mudlarklaw11.TicketQueue", spec := "ticketQueue", inPlace := ["sync/atomic.StoreUint64", "sync/atomic.LoadUint64", "sync/atomic.CompareAndSwapUint64", "sync/atomic.AddUint64"], unfollowed := true, recurses := true, apart := false }
def TicketQueueSaid : Prop := ticketQueueRow.holds Try.pinned (OpenSpec.ofChange ticketQueueSpec)

/-- ITS FALSE NEIGHBOUR: 'it returns false'. Refute it at one input. -/
def ticketQueueWrong : ChangeSpec := { name := "ticketQueue", fn := fun _ => fun
  | [d1, d2, d3] => { results := [.lit (.bool false)], args := [d1, d2, d3] }
  | _ => none }
def TicketQueueWrongFalsely : Prop := ticketQueueRow.holds Try.pinned (OpenSpec.ofChange ticketQueueWrong)

/-- 'mudlarklaw18.SweepSweeps': WHATEVER THE INPUT: true; the input reads as it did. -/
def sweepSweepsSpec : ChangeSpec := { name := "sweepSweeps", fn := fun _ => fun
  | [d1, d2] => { results := [.lit (.bool true)], args := [d1, d2] }
  | _ => none }
def sweepSweepsRow : OpenClaim := { program := "ytnhnbgkhbhgifaa", sum := "000447db6cbfaef04eb51cb14c83dad690fcc915f1845d2c46024b601bbc8533", func := "mudlark/mudlarklaw18.SweepSweeps", spec := "sweepSweeps", inPlace := ["sync/atomic.StoreUint64", "sync/atomic.LoadUint64", "sync/atomic.CompareAndSwapUint64", "sync/atomic.AddUint64"], apart := false }
def SweepSweepsSaid : Prop := sweepSweepsRow.holds Try.pinned (OpenSpec.ofChange sweepSweepsSpec)

/-- ITS FALSE NEIGHBOUR: 'it returns false'. Refute it at one input. -/
def sweepSweepsWrong : ChangeSpec := { name := "sweepSweeps", fn := fun _ => fun
  | [d1, d2] => { results := [.lit (.bool false)], args := [d1, d2] }
  | _ => none }
def SweepSweepsWrongFalsely : Prop := sweepSweepsRow.holds Try.pinned (OpenSpec.ofChange sweepSweepsWrong)

/-- 'mudlarklaw19.CollectorCycles': WHATEVER THE INPUT: true; the input reads as it did. -/
def collectorCyclesSpec : ChangeSpec := { name := "collectorCycles", fn := fun _ => fun
  | [d1, d2] => { results := [.lit (.bool true)], args := [d1, d2] }
  | _ => none }
def collectorCyclesRow : OpenClaim := { program := "ytnhnbgkhbhgifaa", sum := "000447db6cbfaef04eb51cb14c83dad690fcc915f1845d2c46024b601bbc8533", func := "mudlark/mudlarklaw19.CollectorCycles", spec := "collectorCycles", inPlace := ["sync/atomic.StoreUint64", "sync/atomic.LoadUint64", "sync/atomic.CompareAndSwapUint64", "sync/atomic.AddUint64"], unfollowed := true, recurses := true, apart := false }
def CollectorCyclesSaid : Prop := collectorCyclesRow.holds Try.pinned (OpenSpec.ofChange collectorCyclesSpec)

/-- ITS FALSE NEIGHBOUR: 'it returns false'. Refute it at one input. -/
def collectorCyclesWrong : ChangeSpec := { name := "collectorCycles", fn := fun _ => fun
  | [d1, d2] => { results := [.lit (.bool false)], args := [d1, d2] }
  | _ => none }
def CollectorCyclesWrongFalsely : Prop := collectorCyclesRow.holds Try.pinned (OpenSpec.ofChange collectorCyclesWrong)

/-- 'mudlarklaw22.GraphReaches': WHATEVER THE INPUT: true; the input reads as it did. -/
def graphReachesSpec : ChangeSpec := { name := "graphReaches", fn := fun _ => fun
  | [d1, d2, d3] => { results := [.lit (.bool true)], args := [d1, d2, d3] }
  | _ => none }
def graphReachesRow : OpenClaim := { program := "ytnhnbgkhbhgifaa", sum := "000447db6cbfaef04eb51cb14c83dad690fcc915f1845d2c46024b601bbc8533", func := "mudlark/mudlarklaw22.GraphReaches", spec := "graphReaches", inPlace := ["sync/atomic.StoreUint64", "sync/atomic.LoadUint64"], apart := false }
def GraphReachesSaid : Prop := graphReachesRow.holds Try.pinned (OpenSpec.ofChange graphReachesSpec)

/-- ITS FALSE NEIGHBOUR: 'it returns false'. Refute it at one input. -/
def graphReachesWrong : ChangeSpec := { name := "graphReaches", fn := fun _ => fun
  | [d1, d2, d3] => { results := [.lit (.bool false)], args := [d1, d2, d3] }
  | _ => none }
def GraphReachesWrongFalsely : Prop := graphReachesRow.holds Try.pinned (OpenSpec.ofChange graphReachesWrong)

/-- 'mudlarklaw22.GraphClasses': WHATEVER THE INPUT: true; the input reads as it did. -/
def graphClassesSpec : ChangeSpec := { name := "graphClasses", fn := fun _ => fun
  | [d1, d2, d3] => { results := [.lit (.bool true)], args := [d1, d2, d3] }
  | _ => none }
def graphClassesRow : OpenClaim := { program := "ytnhnbgkhbhgifaa", sum := "000447db6cbfaef04eb51cb14c83dad690fcc915f1845d2c46024b601bbc8533", func := "mudlark/mudlarklaw22.GraphClasses", spec := "graphClasses", inPlace := ["sync/atomic.StoreUint64", "sync/atomic.LoadUint64"], apart := false }
def GraphClassesSaid : Prop := graphClassesRow.holds Try.pinned (OpenSpec.ofChange graphClassesSpec)

/-- ITS FALSE NEIGHBOUR: 'it returns false'. Refute it at one input. -/
def graphClassesWrong : ChangeSpec := { name := "graphClasses", fn := fun _ => fun
  | [d1, d2, d3] => { results := [.lit (.bool false)], args := [d1, d2, d3] }
  | _ => none }
def GraphClassesWrongFalsely : Prop := graphClassesRow.holds Try.pinned (OpenSpec.ofChange graphClassesWrong)

/-- 'mudlarklaw22.GraphCloses': WHATEVER THE INPUT: true; the input reads as it did. -/
def graphClosesSpec : ChangeSpec := { name := "graphCloses", fn := fun _ => fun
  | [d1, d2, d3, d4] => { results := [.lit (.bool true)], args := [d1, d2, d3, d4] }
  | _ => none }
def graphClosesRow : OpenClaim := { program := "ytnhnbgkhbhgifaa", sum := "000447db6cbfaef04eb51cb14c83dad690fcc915f1845d2c46024b601bbc8533", func := "mudlark/mudlarklaw22.GraphCloses", spec := "graphCloses", inPlace := ["sync/atomic.StoreUint64", "sync/atomic.LoadUint64"], unfollowed := true, recurses := true, apart := false }
def GraphClosesSaid : Prop := graphClosesRow.holds Try.pinned (OpenSpec.ofChange graphClosesSpec)

/-- ITS FALSE NEIGHBOUR: 'it returns false'. Refute it at one input. -/
def graphClosesWrong : ChangeSpec := { name := "graphCloses", fn := fun _ => fun
  | [d1, d2, d3, d4] => { results := [.lit (.bool false)], args := [d1, d2, d3, d4] }
  | _ => none }
def GraphClosesWrongFalsely : Prop := graphClosesRow.holds Try.pinned (OpenSpec.ofChange graphClosesWrong)

/-- 'mudlarklaw24.RenameMatches': WHATEVER THE INPUT: true; the input reads as it did. -/
def renameMatchesSpec : ChangeSpec := { name := "renameMatches", fn := fun _ => fun
  | [d1, d2, d3, d4] => { results := [.lit (.bool true)], args := [d1, d2, d3, d4] }
  | _ => none }
def renameMatchesRow : OpenClaim := { program := "ytnhnbgkhbhgifaa", sum := "000447db6cbfaef04eb51cb14c83dad690fcc915f1845d2c46024b601bbc8533", func := "mudlark/mudlarklaw24.RenameMatches", spec := "renameMatches", inPlace := ["sync/atomic.StoreUint64", "sync/atomic.LoadUint64"], apart := false }
def RenameMatchesSaid : Prop := renameMatchesRow.holds Try.pinned (OpenSpec.ofChange renameMatchesSpec)

/-- ITS FALSE NEIGHBOUR: 'it returns false'. Refute it at one input. -/
def renameMatchesWrong : ChangeSpec := { name := "renameMatches", fn := fun _ => fun
  | [d1, d2, d3, d4] => { results := [.lit (.bool false)], args := [d1, d2, d3, d4] }
  | _ => none }
def RenameMatchesWrongFalsely : Prop := renameMatchesRow.holds Try.pinned (OpenSpec.ofChange renameMatchesWrong)

/-- 'mudlarklaw24.RenameBuilds': WHATEVER THE INPUT: true; the input reads as it did. -/
def renameBuildsSpec : ChangeSpec := { name := "renameBuilds", fn := fun _ => fun
  | [d1, d2, d3, d4] => { results := [.lit (.bool true)], args := [d1, d2, d3, d4] }
  | _ => none }
def renameBuildsRow : OpenClaim := { program := "ytnhnbgkhbhgifaa", sum := "000447db6cbfaef04eb51cb14c83dad690fcc915f1845d2c46024b601bbc8533", func := "mudlark/mudlarklaw24.RenameBuilds", spec := "renameBuilds", inPlace := ["sync/atomic.StoreUint64", "sync/atomic.LoadUint64"], unfollowed := true, recurses := true, apart := false }
def RenameBuildsSaid : Prop := renameBuildsRow.holds Try.pinned (OpenSpec.ofChange renameBuildsSpec)

/-- ITS FALSE NEIGHBOUR: 'it returns false'. Refute it at one input. -/
def renameBuildsWrong : ChangeSpec := { name := "renameBuilds", fn := fun _ => fun
  | [d1, d2, d3, d4] => { results := [.lit (.bool false)], args := [d1, d2, d3, d4] }
  | _ => none }
def RenameBuildsWrongFalsely : Prop := renameBuildsRow.holds Try.pinned (OpenSpec.ofChange renameBuildsWrong)

/-- 'mudlarklaw26.AgeBooks': WHATEVER THE INPUT: true; the input reads as it did. -/
def ageBooksSpec : ChangeSpec := { name := "ageBooks", fn := fun _ => fun
  | [d1, d2, d3] => { results := [.lit (.bool true)], args := [d1, d2, d3] }
  | _ => none }
def ageBooksRow : OpenClaim := { program := "ytnhnbgkhbhgifaa", sum := "000447db6cbfaef04eb51cb14c83dad690fcc915f1845d2c46024b601bbc8533", func := "mudlark/mudlarklaw26.AgeBooks", spec := "ageBooks", apart := false }
def AgeBooksSaid : Prop := ageBooksRow.holds Try.pinned (OpenSpec.ofChange ageBooksSpec)

/-- ITS FALSE NEIGHBOUR: 'it returns false'. Refute it at one input. -/
def ageBooksWrong : ChangeSpec := { name := "ageBooks", fn := fun _ => fun
  | [d1, d2, d3] => { results := [.lit (.bool false)], args := [d1, d2, d3] }
  | _ => none }
def AgeBooksWrongFalsely : Prop := ageBooksRow.holds Try.pinned (OpenSpec.ofChange ageBooksWrong)

/- THE SECOND FORM. 'bulk': how many values and letters a reading holds, each counted each time it is reached (what is shared counts as often as it is met; a slice's spare places count too). A statement '..UptoSaid' is the law's where the arguments, and the package variables that the reading takes, are together of bulk at most 1048576: NARROWER than '..Said'. Prove '..Said' where nothing that the law and all that it calls make is longer than what came in: it says more and counts as full. Else prove '..UptoSaid'. A law counts once. -/
mutual
def uptoBulk {H : Type} : DataW H → Nat
  | .lit (.string bytes) => bytes.length + 1
  | .lit _ => 1
  | .nil => 1
  | .ptr d => uptoBulk d + 1
  | .slice elems spare => uptoBulkAll elems + uptoBulkAll spare + 1
  | .agg parts => uptoBulkAll parts + 1
  | .iface _ d => uptoBulk d + 1
  | .map entries => uptoBulkEntries entries + 1
  | .held _ => 1
def uptoBulkAll {H : Type} : List (DataW H) → Nat
  | [] => 0
  | d :: r => uptoBulk d + uptoBulkAll r
def uptoBulkEntries {H : Type} : List (Lit × DataW H) → Nat
  | [] => 0
  | x :: r => uptoBulkEntry x + uptoBulkEntries r
def uptoBulkEntry {H : Type} : Lit × DataW H → Nat
  | (.string bytes, d) => bytes.length + uptoBulk d + 1
  | (_, d) => uptoBulk d + 1
 end
def uptoSmall : (H : Type) → List (DataW H) → Bool := fun _ ds => decide (uptoBulkAll ds ≤ 1048576)
def OpenSpec.upto (s : _root_.Go.ChangeSpec) : _root_.Go.OpenSpec := { _root_.Go.OpenSpec.ofChange s with cond := some uptoSmall }

/-- 'mudlarklaw31.ReplayGoes', WHERE WHAT IT READS IS OF BULK AT MOST 1048576: true; the input reads as it did. -/
def replayGoesUptoRow : OpenClaim := { program := "ytnhnbgkhbhgifaa", sum := "000447db6cbfaef04eb51cb14c83dad690fcc915f1845d2c46024b601bbc8533", func := "mudlark/mudlarklaw31.ReplayGoes", spec := "replayGoes", inPlace := ["sync/atomic.StoreUint64", "sync/atomic.LoadUint64", "sync/atomic.CompareAndSwapUint64", "sync/atomic.AddUint64"], unfollowed := true, recurses := true, apart := false, narrowed := true }
def ReplayGoesUptoSaid : Prop := replayGoesUptoRow.holds Try.pinned (OpenSpec.upto replayGoesSpec)

/-- 'mudlarklaw31.ReplayPlaces', WHERE WHAT IT READS IS OF BULK AT MOST 1048576: true; the input reads as it did. -/
def replayPlacesUptoRow : OpenClaim := { program := "ytnhnbgkhbhgifaa", sum := "000447db6cbfaef04eb51cb14c83dad690fcc915f1845d2c46024b601bbc8533", func := "mudlark/mudlarklaw31.ReplayPlaces", spec := "replayPlaces", inPlace := ["sync/atomic.StoreUint64", "sync/atomic.LoadUint64", "sync/atomic.CompareAndSwapUint64", "sync/atomic.AddUint64"], unfollowed := true, recurses := true, apart := false, narrowed := true }
def ReplayPlacesUptoSaid : Prop := replayPlacesUptoRow.holds Try.pinned (OpenSpec.upto replayPlacesSpec)

/-- 'mudlarklaw11.TicketQueue', WHERE WHAT IT READS IS OF BULK AT MOST 1048576: true; the input reads as it did. -/
def ticketQueueUptoRow : OpenClaim := { program := "ytnhnbgkhbhgifaa", sum := "000447db6cbfaef04eb51cb14c83dad690fcc915f1845d2c46024b601bbc8533", func := "mudlark/mudlarklaw11.TicketQueue", spec := "ticketQueue", inPlace := ["sync/atomic.StoreUint64", "sync/atomic.LoadUint64", "sync/atomic.CompareAndSwapUint64", "sync/atomic.AddUint64"], unfollowed := true, recurses := true, apart := false, narrowed := true }
def TicketQueueUptoSaid : Prop := ticketQueueUptoRow.holds Try.pinned (OpenSpec.upto ticketQueueSpec)

/-- 'mudlarklaw18.SweepSweeps', WHERE WHAT IT READS IS OF BULK AT MOST 1048576: true; the input reads as it did. -/
def sweepSweepsUptoRow : OpenClaim := { program := "ytnhnbgkhbhgifaa", sum := "000447db6cbfaef04eb51cb14c83dad690fcc915f1845d2c46024b601bbc8533", func := "mudlark/mudlarklaw18.SweepSweeps", spec := "sweepSweeps", inPlace := ["sync/atomic.StoreUint64", "sync/atomic.LoadUint64", "sync/atomic.CompareAndSwapUint64", "sync/atomic.AddUint64"], apart := false, narrowed := true }
def SweepSweepsUptoSaid : Prop := sweepSweepsUptoRow.holds Try.pinned (OpenSpec.upto sweepSweepsSpec)

/-- 'mudlarklaw19.CollectorCycles', WHERE WHAT IT READS IS OF BULK AT MOST 1048576: true; the input reads as it did. -/
def collectorCyclesUptoRow : OpenClaim := { program := "ytnhnbgkhbhgifaa", sum := "000447db6cbfaef04eb51cb14c83dad690fcc915f1845d2c46024b601bbc8533", func := "mudlark/mudlarklaw19.CollectorCycles", spec := "collectorCycles", inPlace := ["sync/atomic.StoreUint64", "sync/atomic.LoadUint64", "sync/atomic.CompareAndSwapUint64", "sync/atomic.AddUint64"], unfollowed := true, recurses := true, apart := false, narrowed := true }
def CollectorCyclesUptoSaid : Prop := collectorCyclesUptoRow.holds Try.pinned (OpenSpec.upto collectorCyclesSpec)

/-- 'mudlarklaw22.GraphReaches', WHERE WHAT IT READS IS OF BULK AT MOST 1048576: true; the input reads as it did. -/
def graphReachesUptoRow : OpenClaim := { program := "ytnhnbgkhbhgifaa", sum := "000447db6cbfaef04eb51cb14c83dad690fcc915f1845d2c46024b601bbc8533", func := "mudlark/mudlarklaw22.GraphReaches", spec := "graphReaches", inPlace := ["sync/atomic.StoreUint64", "sync/atomic.LoadUint64"], apart := false, narrowed := true }
def GraphReachesUptoSaid : Prop := graphReachesUptoRow.holds Try.pinned (OpenSpec.upto graphReachesSpec)

/-- 'mudlarklaw22.GraphClasses', WHERE WHAT IT READS IS OF BULK AT MOST 1048576: true; the input reads as it did. -/
def graphClassesUptoRow : OpenClaim := { program := "ytnhnbgkhbhgifaa", sum := "000447db6cbfaef04eb51cb14c83dad690fcc915f1845d2c46024b601bbc8533", func := "mudlark/mudlarklaw22.GraphClasses", spec := "graphClasses", inPlace := ["sync/atomic.StoreUint64", "sync/atomic.LoadUint64"], apart := false, narrowed := true }
def GraphClassesUptoSaid : Prop := graphClassesUptoRow.holds Try.pinned (OpenSpec.upto graphClassesSpec)

/-- 'mudlarklaw22.GraphCloses', WHERE WHAT IT READS IS OF BULK AT MOST 1048576: true; the input reads as it did. -/
def graphClosesUptoRow : OpenClaim := { program := "ytnhnbgkhbhgifaa", sum := "000447db6cbfaef04eb51cb14c83dad690fcc915f1845d2c46024b601bbc8533", func := "mudlark/mudlarklaw22.GraphCloses", spec := "graphCloses", inPlace := ["sync/atomic.StoreUint64", "sync/atomic.LoadUint64"], unfollowed := true, recurses := true, apart := false, narrowed := true }
def GraphClosesUptoSaid : Prop := graphClosesUptoRow.holds Try.pinned (OpenSpec.upto graphClosesSpec)

/-- 'mudlarklaw24.RenameMatches', WHERE WHAT IT READS IS OF BULK AT MOST 1048576: true; the input reads as it did. -/
def renameMatchesUptoRow : OpenClaim := { program := "ytnhnbgkhbhgifaa", sum := "000447db6cbfaef04eb51cb14c83dad690fcc915f1845d2c46024b601bbc8533", func := "mudlark/mudlarklaw24.RenameMatches", spec := "renameMatches", inPlace := ["sync/atomic.StoreUint64", "sync/atomic.LoadUint64"], apart := false, narrowed := true }
def RenameMatchesUptoSaid : Prop := renameMatchesUptoRow.holds Try.pinned (OpenSpec.upto renameMatchesSpec)

/-- 'mudlarklaw24.RenameBuilds', WHERE WHAT IT READS IS OF BULK AT MOST 1048576: true; the input reads as it did. -/
def renameBuildsUptoRow : OpenClaim := { program := "ytnhnbgkhbhgifaa", sum := "000447db6cbfaef04eb51cb14c83dad690fcc915f1845d2c46024b601bbc8533", func := "mudlark/mudlarklaw24.RenameBuilds", spec := "renameBuilds", inPlace := ["sync/atomic.StoreUint64", "sync/atomic.LoadUint64"], unfollowed := true, recurses := true, apart := false, narrowed := true }
def RenameBuildsUptoSaid : Prop := renameBuildsUptoRow.holds Try.pinned (OpenSpec.upto renameBuildsSpec)

/-- 'mudlarklaw26.AgeBooks', WHERE WHAT IT READS IS OF BULK AT MOST 1048576: true; the input reads as it did. -/
def ageBooksUptoRow : OpenClaim := { program := "ytnhnbgkhbhgifaa", sum := "000447db6cbfaef04eb51cb14c83dad690fcc915f1845d2c46024b601bbc8533", func := "mudlark/mudlarklaw26.AgeBooks", spec := "ageBooks", apart := false, narrowed := true }
def AgeBooksUptoSaid : Prop := ageBooksUptoRow.holds Try.pinned (OpenSpec.upto ageBooksSpec)

end Rows
end Go.Proofs.Ytnhnbgkhbhgifaa
