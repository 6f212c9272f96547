/-
  No cell of these rows narrows 'for every input' (looked for: loops, veiled, ifaces, maps, wideKeys, modest, calm, conditions, laid).
  DERIVED. THE GIVEN ROWS OF THIS SEAT. 12 by the template 'for every input the law returns true; each argument reads behind the call as it read before'; 0 by the template 'total and deterministic' (their statements: YtinafadacgloaaaTotals.lean).
  GIVEN WITH THE SEED: the statements are not yours to turn. If you find one false, say at which input.
  Laid BY PROGRAM, IN A SANDBOX (cutbox-rows.mjs): the forced cells as the released guide's own fill.sh prints them over the translation e7577a03e8d66168… (all of the seat's roots in one cut). By AI agents, Wed Nov 11 2026. No macro, syntax, notation, axiom, sorry.
-/
import Derived.Test.YtinafadacgloaaaChecked
import GoSem.Claim
import GoSem.ClaimJoined
import GoSem.ClaimMapViews
import Derived.JoinedTies
import Derived.KernelRfl
namespace Go.Proofs.Ytinafadacgloaaa
/- THE CELL 'sum', in the pinned program and in every row, IS THE sha256 OF THE DUMP (.gsa) THAT YtinafadacgloaaaProg.lean LOADS. Nothing in Lean hashes anything: it is a label: what it is worth is what the hold of that sum in a sandbox is worth. -/
noncomputable def Try.pinned : Pinned := { name := "ytinafadacgloaaa", sum := "e7577a03e8d6616874005d0adf93b75987199933c13a81b70527fb734c8835f3", checked := Try.checked }
namespace Rows
def none {H : Type} : Left H := { results := [], args := [] }

/-- 'mudlarklaw07.HandLast': WHATEVER THE INPUT: true; the input reads as it did. -/
def handLastSpec : ChangeSpec := { name := "handLast", fn := fun _ => fun
  | [d1, d2] => { results := [.lit (.bool true)], args := [d1, d2] }
  | _ => none }
def handLastRow : OpenClaim := { program := "ytinafadacgloaaa", sum := "e7577a03e8d6616874005d0adf93b75987199933c13a81b70527fb734c8835f3", func := "mudlark/mudlarklaw07.HandLast", spec := "handLast", inPlace := ["sync/atomic.StoreUint64", "sync/atomic.LoadUint64", "sync/atomic.CompareAndSwapUint64", "sync/atomic.AddUint64"], apart := false }
def HandLastSaid : Prop := handLastRow.holds Try.pinned (OpenSpec.ofChange handLastSpec)

/-- ITS FALSE NEIGHBOUR: 'it returns false'. Refute it at one input. -/
def handLastWrong : ChangeSpec := { name := "handLast", fn := fun _ => fun
  | [d1, d2] => { results := [.lit (.bool false)], args := [d1, d2] }
  | _ => none }
def HandLastWrongFalsely : Prop := handLastRow.holds Try.pinned (OpenSpec.ofChange handLastWrong)

/-- 'mudlarklaw10.BarrierBegins': WHATEVER THE INPUT: true; the input reads as it did. -/
def barrierBeginsSpec : ChangeSpec := { name := "barrierBegins", fn := fun _ => fun
  | [d1, d2, d3] => { results := [.lit (.bool true)], args := [d1, d2, d3] }
  | _ => none }
def barrierBeginsRow : OpenClaim := { program := "ytinafadacgloaaa", sum := "e7577a03e8d6616874005d0adf93b75987199933c13a81b70527fb734c8835f3", func := "mudlark/mudlarklaw10.BarrierBegins", spec := "barrierBegins", inPlace := ["sync/atomic.StoreUint64", "sync/atomic.LoadUint64", "sync/atomic.CompareAndSwapUint64", "sync/atomic.AddUint64"], apart := false }
def BarrierBeginsSaid : Prop := barrierBeginsRow.holds Try.pinned (OpenSpec.ofChange barrierBeginsSpec)

/-- ITS FALSE NEIGHBOUR: 'it returns false'. Refute it at one input. -/
def barrierBeginsWrong : ChangeSpec := { name := "barrierBegins", fn := fun _ => fun
  | [d1, d2, d3] => { results := [.lit (.bool false)], args := [d1, d2, d3] }
  | _ => none }
def BarrierBeginsWrongFalsely : Prop := barrierBeginsRow.holds Try.pinned (OpenSpec.ofChange barrierBeginsWrong)

/-- 'mudlarklaw10.BarrierSteps': WHATEVER THE INPUT: true; the input reads as it did. -/
def barrierStepsSpec : ChangeSpec := { name := "barrierSteps", fn := fun _ => fun
  | [d1, d2, d3, d4] => { results := [.lit (.bool true)], args := [d1, d2, d3, d4] }
  | _ => none }
def barrierStepsRow : OpenClaim := { program := "ytinafadacgloaaa", sum := "e7577a03e8d6616874005d0adf93b75987199933c13a81b70527fb734c8835f3", func := "mudlark/mudlarklaw10.BarrierSteps", spec := "barrierSteps", inPlace := ["sync/atomic.StoreUint64", "sync/atomic.LoadUint64", "sync/atomic.CompareAndSwapUint64", "sync/atomic.AddUint64"], apart := false }
def BarrierStepsSaid : Prop := barrierStepsRow.holds Try.pinned (OpenSpec.ofChange barrierStepsSpec)

/-- ITS FALSE NEIGHBOUR: 'it returns false'. Refute it at one input. -/
def barrierStepsWrong : ChangeSpec := { name := "barrierSteps", fn := fun _ => fun
  | [d1, d2, d3, d4] => { results := [.lit (.bool false)], args := [d1, d2, d3, d4] }
  | _ => none }
def BarrierStepsWrongFalsely : Prop := barrierStepsRow.holds Try.pinned (OpenSpec.ofChange barrierStepsWrong)

/-- 'mudlarklaw10.BarrierShades': WHATEVER THE INPUT: true; the input reads as it did. -/
def barrierShadesSpec : ChangeSpec := { name := "barrierShades", fn := fun _ => fun
  | [d1, d2, d3] => { results := [.lit (.bool true)], args := [d1, d2, d3] }
  | _ => none }
def barrierShadesRow : OpenClaim := { program := "ytinafadacgloaaa", sum := "e7577a03e8d6616874005d0adf93b75987199933c13a81b70527fb734c8835f3", func := "mudlark/mudlarklaw10.BarrierShades", spec := "barrierShades", inPlace := ["sync/atomic.StoreUint64", "sync/atomic.LoadUint64", "sync/atomic.CompareAndSwapUint64", "sync/atomic.AddUint64"], apart := false }
def BarrierShadesSaid : Prop := barrierShadesRow.holds Try.pinned (OpenSpec.ofChange barrierShadesSpec)

/-- ITS FALSE NEIGHBOUR: 'it returns false'. Refute it at one input. -/
def barrierShadesWrong : ChangeSpec := { name := "barrierShades", fn := fun _ => fun
  | [d1, d2, d3] => { results := [.lit (.bool false)], args := [d1, d2, d3] }
  | _ => none }
def BarrierShadesWrongFalsely : Prop := barrierShadesRow.holds Try.pinned (OpenSpec.ofChange barrierShadesWrong)

/-- 'mudlarklaw10.BarrierTwice': WHATEVER THE INPUT: true; the input reads as it did. -/
def barrierTwiceSpec : ChangeSpec := { name := "barrierTwice", fn := fun _ => fun
  | [d1, d2, d3, d4] => { results := [.lit (.bool true)], args := [d1, d2, d3, d4] }
  | _ => none }
def barrierTwiceRow : OpenClaim := { program := "ytinafadacgloaaa", sum := "e7577a03e8d6616874005d0adf93b75987199933c13a81b70527fb734c8835f3", func := "mudlark/mudlarklaw10.BarrierTwice", spec := "barrierTwice", inPlace := ["sync/atomic.StoreUint64", "sync/atomic.LoadUint64", "sync/atomic.CompareAndSwapUint64", "sync/atomic.AddUint64"], apart := false }
def BarrierTwiceSaid : Prop := barrierTwiceRow.holds Try.pinned (OpenSpec.ofChange barrierTwiceSpec)

/-- ITS FALSE NEIGHBOUR: 'it returns false'. Refute it at one input. -/
def barrierTwiceWrong : ChangeSpec := { name := "barrierTwice", fn := fun _ => fun
  | [d1, d2, d3, d4] => { results := [.lit (.bool false)], args := [d1, d2, d3, d4] }
  | _ => none }
def BarrierTwiceWrongFalsely : Prop := barrierTwiceRow.holds Try.pinned (OpenSpec.ofChange barrierTwiceWrong)

/-- 'mudlarklaw13.PopSteps': WHATEVER THE INPUT: true; the input reads as it did. -/
def popStepsSpec : ChangeSpec := { name := "popSteps", fn := fun _ => fun
  | [d1, d2, d3, d4] => { results := [.lit (.bool true)], args := [d1, d2, d3, d4] }
  | _ => none }
def popStepsRow : OpenClaim := { program := "ytinafadacgloaaa", sum := "e7577a03e8d6616874005d0adf93b75987199933c13a81b70527fb734c8835f3", func := "mudlark/mudlarklaw13.PopSteps", spec := "popSteps", inPlace := ["sync/atomic.StoreUint64", "sync/atomic.LoadUint64", "sync/atomic.CompareAndSwapUint64", "sync/atomic.AddUint64"], apart := false }
def PopStepsSaid : Prop := popStepsRow.holds Try.pinned (OpenSpec.ofChange popStepsSpec)

/-- ITS FALSE NEIGHBOUR: 'it returns false'. Refute it at one input. -/
def popStepsWrong : ChangeSpec := { name := "popSteps", fn := fun _ => fun
  | [d1, d2, d3, d4] => { results := [.lit (.bool false)], args := [d1, d2, d3, d4] }
  | _ => none }
def PopStepsWrongFalsely : Prop := popStepsRow.holds Try.pinned (OpenSpec.ofChange popStepsWrong)

/-- 'mudlarklaw13.PopTakes': WHATEVER THE INPUT: true; the input reads as it did. -/
def popTakesSpec : ChangeSpec := { name := "popTakes", fn := fun _ => fun
  | [d1, d2] => { results := [.lit (.bool true)], args := [d1, d2] }
  | _ => none }
def popTakesRow : OpenClaim := { program := "ytinafadacgloaaa", sum := "e7577a03e8d6616874005d0adf93b75987199933c13a81b70527fb734c8835f3", func := "mudlark/mudlarklaw13.PopTakes", spec := "popTakes", inPlace := ["sync/atomic.StoreUint64", "sync/atomic.LoadUint64", "sync/atomic.CompareAndSwapUint64", "sync/atomic.AddUint64"], apart := false }
def PopTakesSaid : Prop := popTakesRow.holds Try.pinned (OpenSpec.ofChange popTakesSpec)

/-- ITS FALSE NEIGHBOUR: 'it returns false'. Refute it at one input. -/
def popTakesWrong : ChangeSpec := { name := "popTakes", fn := fun _ => fun
  | [d1, d2] => { results := [.lit (.bool false)], args := [d1, d2] }
  | _ => none }
def PopTakesWrongFalsely : Prop := popTakesRow.holds Try.pinned (OpenSpec.ofChange popTakesWrong)

/-- 'mudlarklaw17.BarSteps': WHATEVER THE INPUT: true; the input reads as it did. -/
def barStepsSpec : ChangeSpec := { name := "barSteps", fn := fun _ => fun
  | [d1, d2, d3] => { results := [.lit (.bool true)], args := [d1, d2, d3] }
  | _ => none }
def barStepsRow : OpenClaim := { program := "ytinafadacgloaaa", sum := "e7577a03e8d6616874005d0adf93b75987199933c13a81b70527fb734c8835f3", func := "mudlark/mudlarklaw17.BarSteps", spec := "barSteps", inPlace := ["sync/atomic.StoreUint64", "sync/atomic.LoadUint64", "sync/atomic.CompareAndSwapUint64", "sync/atomic.AddUint64"], unfollowed := true, recurses := true, apart := false }
def BarStepsSaid : Prop := barStepsRow.holds Try.pinned (OpenSpec.ofChange barStepsSpec)

/-- ITS FALSE NEIGHBOUR: 'it returns false'. Refute it at one input. -/
def barStepsWrong : ChangeSpec := { name := "barSteps", fn := fun _ => fun
  | [d1, d2, d3] => { results := [.lit (.bool false)], args := [d1, d2, d3] }
  | _ => none }
def BarStepsWrongFalsely : Prop := barStepsRow.holds Try.pinned (OpenSpec.ofChange barStepsWrong)

/-- 'mudlarklaw17.BarDirty': WHATEVER THE INPUT: true; the input reads as it did. -/
def barDirtySpec : ChangeSpec := { name := "barDirty", fn := fun _ => fun
  | [d1, d2] => { results := [.lit (.bool true)], args := [d1, d2] }
  | _ => none }
def barDirtyRow : OpenClaim := { program := "ytinafadacgloaaa", sum := "e7577a03e8d6616874005d0adf93b75987199933c13a81b70527fb734c8835f3", func := "mudlark/mudlarklaw17.BarDirty", spec := "barDirty", inPlace := ["sync/atomic.StoreUint64", "sync/atomic.LoadUint64", "sync/atomic.CompareAndSwapUint64", "sync/atomic.AddUint64"], unfollowed := true, recurses := true, apart := false }
def BarDirtySaid : Prop := barDirtyRow.holds Try.pinned (OpenSpec.ofChange barDirtySpec)

/-- ITS FALSE NEIGHBOUR: 'it returns false'. Refute it at one input. -/
def barDirtyWrong : ChangeSpec := { name := "barDirty", fn := fun _ => fun
  | [d1, d2] => { results := [.lit (.bool false)], args := [d1, d2] }
  | _ => none }
def BarDirtyWrongFalsely : Prop := barDirtyRow.holds Try.pinned (OpenSpec.ofChange barDirtyWrong)

/-- 'mudlarklaw18.SweepSteps': WHATEVER THE INPUT: true; the input reads as it did. -/
def sweepStepsSpec : ChangeSpec := { name := "sweepSteps", fn := fun _ => fun
  | [d1, d2, d3, d4] => { results := [.lit (.bool true)], args := [d1, d2, d3, d4] }
  | _ => none }
def sweepStepsRow : OpenClaim := { program := "ytinafadacgloaaa", sum := "e7577a03e8d6616874005d0adf93b75987199933c13a81b70527fb734c8835f3", func := "mudlark/mudlarklaw18.SweepSteps", spec := "sweepSteps", inPlace := ["sync/atomic.StoreUint64", "sync/atomic.LoadUint64", "sync/atomic.CompareAndSwapUint64", "sync/atomic.AddUint64"], apart := false }
def SweepStepsSaid : Prop := sweepStepsRow.holds Try.pinned (OpenSpec.ofChange sweepStepsSpec)

/-- ITS FALSE NEIGHBOUR: 'it returns false'. Refute it at one input. -/
def sweepStepsWrong : ChangeSpec := { name := "sweepSteps", fn := fun _ => fun
  | [d1, d2, d3, d4] => { results := [.lit (.bool false)], args := [d1, d2, d3, d4] }
  | _ => none }
def SweepStepsWrongFalsely : Prop := sweepStepsRow.holds Try.pinned (OpenSpec.ofChange sweepStepsWrong)

/-- 'mudlarklaw15.RootsSteps': WHATEVER THE INPUT: true; the input reads as it did. -/
def rootsStepsSpec : ChangeSpec := { name := "rootsSteps", fn := fun _ => fun
  | [d1, d2, d3] => { results := [.lit (.bool true)], args := [d1, d2, d3] }
  | _ => none }
def rootsStepsRow : OpenClaim := { program := "ytinafadacgloaaa", sum := "e7577a03e8d6616874005d0adf93b75987199933c13a81b70527fb734c8835f3", func := "mudlark/mudlarklaw15.RootsSteps", spec := "rootsSteps", inPlace := ["sync/atomic.StoreUint64", "sync/atomic.LoadUint64", "sync/atomic.CompareAndSwapUint64", "sync/atomic.AddUint64"], apart := false }
def RootsStepsSaid : Prop := rootsStepsRow.holds Try.pinned (OpenSpec.ofChange rootsStepsSpec)

/-- ITS FALSE NEIGHBOUR: 'it returns false'. Refute it at one input. -/
def rootsStepsWrong : ChangeSpec := { name := "rootsSteps", fn := fun _ => fun
  | [d1, d2, d3] => { results := [.lit (.bool false)], args := [d1, d2, d3] }
  | _ => none }
def RootsStepsWrongFalsely : Prop := rootsStepsRow.holds Try.pinned (OpenSpec.ofChange rootsStepsWrong)

/-- 'mudlarklaw16.PassSteps': WHATEVER THE INPUT: true; the input reads as it did. -/
def passStepsSpec : ChangeSpec := { name := "passSteps", fn := fun _ => fun
  | [d1, d2, d3] => { results := [.lit (.bool true)], args := [d1, d2, d3] }
  | _ => none }
def passStepsRow : OpenClaim := { program := "ytinafadacgloaaa", sum := "e7577a03e8d6616874005d0adf93b75987199933c13a81b70527fb734c8835f3", func := "mudlark/mudlarklaw16.PassSteps", spec := "passSteps", inPlace := ["sync/atomic.StoreUint64", "sync/atomic.LoadUint64", "sync/atomic.CompareAndSwapUint64", "sync/atomic.AddUint64"], unfollowed := true, recurses := true, apart := false }
def PassStepsSaid : Prop := passStepsRow.holds Try.pinned (OpenSpec.ofChange passStepsSpec)

/-- ITS FALSE NEIGHBOUR: 'it returns false'. Refute it at one input. -/
def passStepsWrong : ChangeSpec := { name := "passSteps", fn := fun _ => fun
  | [d1, d2, d3] => { results := [.lit (.bool false)], args := [d1, d2, d3] }
  | _ => none }
def PassStepsWrongFalsely : Prop := passStepsRow.holds Try.pinned (OpenSpec.ofChange passStepsWrong)

/- THE SECOND FORM. 'bulk': how many values and letters a reading holds, each counted each time it is reached (what is shared counts as often as it is met; a slice's spare places count too). A statement '..UptoSaid' is the law's where the arguments, and the package variables that the reading takes, are together of bulk at most 1048576: NARROWER than '..Said'. Prove '..Said' where nothing that the law and all that it calls make is longer than what came in: it says more and counts as full. Else prove '..UptoSaid'. A law counts once. -/
mutual
def uptoBulk {H : Type} : DataW H → Nat
  | .lit (.string bytes) => bytes.length + 1
  | .lit _ => 1
  | .nil => 1
  | .ptr d => uptoBulk d + 1
  | .slice elems spare => uptoBulkAll elems + uptoBulkAll spare + 1
  | .agg parts => uptoBulkAll parts + 1
  | .iface _ d => uptoBulk d + 1
  | .map entries => uptoBulkEntries entries + 1
  | .held _ => 1
def uptoBulkAll {H : Type} : List (DataW H) → Nat
  | [] => 0
  | d :: r => uptoBulk d + uptoBulkAll r
def uptoBulkEntries {H : Type} : List (Lit × DataW H) → Nat
  | [] => 0
  | x :: r => uptoBulkEntry x + uptoBulkEntries r
def uptoBulkEntry {H : Type} : Lit × DataW H → Nat
  | (.string bytes, d) => bytes.length + uptoBulk d + 1
  | (_, d) => uptoBulk d + 1
 end
def uptoSmall : (H : Type) → List (DataW H) → Bool := fun _ ds => decide (uptoBulkAll ds ≤ 1048576)
def OpenSpec.upto (s : _root_.Go.ChangeSpec) : _root_.Go.OpenSpec := { _root_.Go.OpenSpec.ofChange s with cond := some uptoSmall }

/-- 'mudlarklaw07.HandLast', WHERE WHAT IT READS IS OF BULK AT MOST 1048576: true; the input reads as it did. -/
def handLastUptoRow : OpenClaim := { program := "ytinafadacgloaaa", sum := "e7577a03e8d6616874005d0adf93b75987199933c13a81b70527fb734c8835f3", func := "mudlark/mudlarklaw07.HandLast", spec := "handLast", inPlace := ["sync/atomic.StoreUint64", "sync/atomic.LoadUint64", "sync/atomic.CompareAndSwapUint64", "sync/atomic.AddUint64"], apart := false, narrowed := true }
def HandLastUptoSaid : Prop := handLastUptoRow.holds Try.pinned (OpenSpec.upto handLastSpec)

/-- 'mudlarklaw10.BarrierBegins', WHERE WHAT IT READS IS OF BULK AT MOST 1048576: true; the input reads as it did. -/
def barrierBeginsUptoRow : OpenClaim := { program := "ytinafadacgloaaa", sum := "e7577a03e8d6616874005d0adf93b75987199933c13a81b70527fb734c8835f3", func := "mudlark/mudlarklaw10.BarrierBegins", spec := "barrierBegins", inPlace := ["sync/atomic.StoreUint64", "sync/atomic.LoadUint64", "sync/atomic.CompareAndSwapUint64", "sync/atomic.AddUint64"], apart := false, narrowed := true }
def BarrierBeginsUptoSaid : Prop := barrierBeginsUptoRow.holds Try.pinned (OpenSpec.upto barrierBeginsSpec)

/-- 'mudlarklaw10.BarrierSteps', WHERE WHAT IT READS IS OF BULK AT MOST 1048576: true; the input reads as it did. -/
def barrierStepsUptoRow : OpenClaim := { program := "ytinafadacgloaaa", sum := "e7577a03e8d6616874005d0adf93b75987199933c13a81b70527fb734c8835f3", func := "mudlark/mudlarklaw10.BarrierSteps", spec := "barrierSteps", inPlace := ["sync/atomic.StoreUint64", "sync/atomic.LoadUint64", "sync/atomic.CompareAndSwapUint64", "sync/atomic.AddUint64"], apart := false, narrowed := true }
def BarrierStepsUptoSaid : Prop := barrierStepsUptoRow.holds Try.pinned (OpenSpec.upto barrierStepsSpec)

/-- 'mudlarklaw10.BarrierShades', WHERE WHAT IT READS IS OF BULK AT MOST 1048576: true; the input reads as it did. -/
def barrierShadesUptoRow : OpenClaim := { program := "ytinafadacgloaaa", sum := "e7577a03e8d6616874005d0adf93b75987199933c13a81b70527fb734c8835f3", func := "mudlark/mudlarklaw10.BarrierShades", spec := "barrierShades", inPlace := ["sync/atomic.StoreUint64", "sync/atomic.LoadUint64", "sync/atomic.CompareAndSwapUint64", "sync/atomic.AddUint64"], apart := false, narrowed := true }
def BarrierShadesUptoSaid : Prop := barrierShadesUptoRow.holds Try.pinned (OpenSpec.upto barrierShadesSpec)

/-- 'mudlarklaw10.BarrierTwice', WHERE WHAT IT READS IS OF BULK AT MOST 1048576: true; the input reads as it did. -/
def barrierTwiceUptoRow : OpenClaim := { program := "ytinafadacgloaaa", sum := "e7577a03e8d6616874005d0adf93b75987199933c13a81b70527fb734c8835f3", func := "mudlark/mudlarklaw10.BarrierTwice", spec := "barrierTwice", inPlace := ["sync/atomic.StoreUint64", "sync/atomic.LoadUint64", "sync/atomic.CompareAndSwapUint64", "sync/atomic.AddUint64"], apart := false, narrowed := true }
def BarrierTwiceUptoSaid : Prop := barrierTwiceUptoRow.holds Try.pinned (OpenSpec.upto barrierTwiceSpec)

/-- 'mudlarklaw13.PopSteps', WHERE WHAT IT READS IS OF BULK AT MOST 1048576: true; the input reads as it did. -/
def popStepsUptoRow : OpenClaim := { program := "ytinafadacgloaaa", sum := "e7577a03e8d6616874005d0adf93b75987199933c13a81b70527fb734c8835f3", func := "mudlark/mudlarklaw13.PopSteps", spec := "popSteps", inPlace := ["sync/atomic.StoreUint64", "sync/atomic.LoadUint64", "sync/atomic.CompareAndSwapUint64", "sync/atomic.AddUint64"], apart := false, narrowed := true }
def PopStepsUptoSaid : Prop := popStepsUptoRow.holds Try.pinned (OpenSpec.upto popStepsSpec)

/-- 'mudlarklaw13.PopTakes', WHERE WHAT IT READS IS OF BULK AT MOST 1048576: true; the input reads as it did. -/
def popTakesUptoRow : OpenClaim := { program := "ytinafadacgloaaa", sum := "e7577a03e8d6616874005d0adf93b75987199933c13a81b70527fb734c8835f3", func := "mudlark/mudlarklaw13.PopTakes", spec := "popTakes", inPlace := ["sync/atomic.StoreUint64", "sync/atomic.LoadUint64", "sync/atomic.CompareAndSwapUint64", "sync/atomic.AddUint64"], apart := false, narrowed := true }
def PopTakesUptoSaid : Prop := popTakesUptoRow.holds Try.pinned (OpenSpec.upto popTakesSpec)

/-- 'mudlarklaw17.BarSteps', WHERE WHAT IT READS IS OF BULK AT MOST 1048576: true; the input reads as it did. -/
def barStepsUptoRow : OpenClaim := { program := "ytinafadacgloaaa", sum := "e7577a03e8d6616874005d0adf93b75987199933c13a81b70527fb734c8835f3", func := "mudlark/mudlarklaw17.BarSteps", spec := "barSteps", inPlace := ["sync/atomic.StoreUint64", "sync/atomic.LoadUint64", "sync/atomic.CompareAndSwapUint64", "sync/atomic.AddUint64"], unfollowed := true, recurses := true, apart := false, narrowed := true }
def BarStepsUptoSaid : Prop := barStepsUptoRow.holds Try.pinned (OpenSpec.upto barStepsSpec)

/-- 'mudlarklaw17.BarDirty', WHERE WHAT IT READS IS OF BULK AT MOST 1048576: true; the input reads as it did. -/
def barDirtyUptoRow : OpenClaim := { program := "ytinafadacgloaaa", sum := "e7577a03e8d6616874005d0adf93b75987199933c13a81b70527fb734c8835f3", func := "mudlark/mudlarklaw17.BarDirty", spec := "barDirty", inPlace := ["sync/atomic.StoreUint64", "sync/atomic.LoadUint64", "sync/atomic.CompareAndSwapUint64", "sync/atomic.AddUint64"], unfollowed := true, recurses := true, apart := false, narrowed := true }
def BarDirtyUptoSaid : Prop := barDirtyUptoRow.holds Try.pinned (OpenSpec.upto barDirtySpec)

/-- 'mudlarklaw18.SweepSteps', WHERE WHAT IT READS IS OF BULK AT MOST 1048576: true; the input reads as it did. -/
def sweepStepsUptoRow : OpenClaim := { program := "ytinafadacgloaaa", sum := "e7577a03e8d6616874005d0adf93b75987199933c13a81b70527fb734c8835f3", func := "mudlark/mudlarklaw18.SweepSteps", spec := "sweepSteps", inPlace := ["sync/atomic.StoreUint64", "sync/atomic.LoadUint64", "sync/atomic.CompareAndSwapUint64", "sync/atomic.AddUint64"], apart := false, narrowed := true }
def SweepStepsUptoSaid : Prop := sweepStepsUptoRow.holds Try.pinned (OpenSpec.upto sweepStepsSpec)

/-- 'mudlarklaw15.RootsSteps', WHERE WHAT IT READS IS OF BULK AT MOST 1048576: true; the input reads as it did. -/
def rootsStepsUptoRow : OpenClaim := { program := "ytinafadacgloaaa", sum := "e7577a03e8d6616874005d0adf93b75987199933c13a81b70527fb734c8835f3", func := "mudlark/mudlarklaw15.RootsSteps", spec := "rootsSteps", inPlace := ["sync/atomic.StoreUint64", "sync/atomic.LoadUint64", "sync/atomic.CompareAndSwapUint64", "sync/atomic.AddUint64"], apart := false, narrowed := true }
def RootsStepsUptoSaid : Prop := rootsStepsUptoRow.holds Try.pinned (OpenSpec.upto rootsStepsSpec)

/-- 'mudlarklaw16.PassSteps', WHERE WHAT IT READS IS OF BULK AT MOST 1048576: true; the input reads as it did. -/
def passStepsUptoRow : OpenClaim := { program := "ytinafadacgloaaa", sum := "e7577a03e8d6616874005d0adf93b75987199933c13a81b70527fb734c8835f3", func := "mudlark/mudlarklaw16.PassSteps", spec := "passSteps", inPlace := ["sync/atomic.StoreUint64", "sync/atomic.LoadUint64", "sync/atomic.CompareAndSwapUint64", "sync/atomic.AddUint64"], unfollowed := true, recurses := true, apart := false, narrowed := true }
def PassStepsUptoSaid : Prop := passStepsUptoRow.holds Try.pinned (OpenSpec.upto passStepsSpec)

end Rows
end Go.Proofs.Ytinafadacgloaaa
