/- The plain world: mutators with the operations that they have left, a collector, a memory; what a pick does. No program is named here. -/
import Derived.Test.YtfmjnooicjfbbaaMem
namespace Go.Proofs.Ytfmjnooicjfbbaa
open Go.RowKit
set_option linter.unusedVariables false
set_option linter.unusedSimpArgs false

/-- An operation. -/
structure OpV where
  k : Int
  a : Int
  b : Int
  c : Int
  deriving DecidableEq
def OpV.z : OpV := ⟨0, 0, 0, 0⟩
def OpV.cs (o : OpV) : List Value := [.int .i64 o.k, .int .i64 o.a, .int .i64 o.b, .int .i64 o.c]
abbrev OpV.val (o : OpV) : Value := .agg #[.int .i64 o.k, .int .i64 o.a, .int .i64 o.b, .int .i64 o.c]
/-- Is it right? r: a register, g: a global, k: an atom. -/
def rOk (c : Cfg) (n : Int) : Bool := decide (0 ≤ n) && decide (n < c.regs)
def gOk (c : Cfg) (n : Int) : Bool := decide (0 ≤ n) && decide (n < c.globs)
def kOk (n : Int) : Bool := decide (0 ≤ n)
def opOk (c : Cfg) (o : OpV) : Bool :=
  if o.k = 1 then rOk c o.a && kOk o.b
  else if o.k = 2 then rOk c o.a && rOk c o.b
  else if o.k = 3 then rOk c o.a && rOk c o.b && rOk c o.c
  else if o.k = 4 then rOk c o.a && rOk c o.b
  else if o.k = 5 then rOk c o.a && rOk c o.b
  else if o.k = 6 then rOk c o.a && rOk c o.b
  else if o.k = 7 then rOk c o.a && rOk c o.b
  else if o.k = 8 then rOk c o.a && gOk c o.b
  else if o.k = 9 then gOk c o.a && rOk c o.b
  else if o.k = 10 then rOk c o.a && rOk c o.b
  else if o.k = 11 then rOk c o.a
  else false

/-- A note. -/
structure NoteV where
  proc : Int
  what : Int
  op : OpV
  n : Int
  deriving DecidableEq
def NoteV.cs (x : NoteV) : List Value := [.int .i64 x.proc, .int .i64 x.what, .int .i64 x.op.k, .int .i64 x.op.a, .int .i64 x.op.b, .int .i64 x.op.c, .int .i64 x.n]
def noteCs (l : List NoteV) : List Value := l.flatMap NoteV.cs

def MutV.z : MutV := ⟨0, 0, 0, 0, 0, 0, 0, 0, 0, 0, 0, 0, 0⟩
def MutV.op (x : MutV) : OpV := ⟨x.ok, x.oa, x.ob, x.oc⟩
/-- A mutator that begins an operation. -/
def mutBegin (o : OpV) : MutV := ⟨1, o.k, o.a, o.b, o.c, 0, 0, 0, 0, 0, 0, 0, 0⟩

/-- A mutator and the operations that it has left. -/
structure MS where
  x : MutV
  left : List OpV
def MS.z : MS := ⟨MutV.z, []⟩
/-- A world. -/
structure WS where
  s : HS
  muts : List MS
  col : ColV
def WS.mu (g : WS) (i : Int) : MS := if 0 ≤ i ∧ i < g.muts.length then g.muts.getD i.toNat MS.z else MS.z
def WS.setMu (g : WS) (i : Int) (u : MS) (s : HS) : WS := ⟨s, if 0 ≤ i ∧ i < g.muts.length then g.muts.set i.toNat u else g.muts, g.col⟩

structure PickR where
  ran : Bool
  acc : Acc
  notes : List NoteV
  g : WS
/-- What is noted of a step of the collector. -/
def colNotes (p what at_ cyc : Int) : List NoteV :=
  (if what = 1 then [⟨p, 4, OpV.z, 0⟩] else if what = 2 ∨ what = 5 then [⟨p, 5, OpV.z, at_⟩] else []) ++ (if 3 ≤ what then [⟨p, 6, OpV.z, cyc⟩] else [])
def WS.collect (g : WS) : PickR :=
  ⟨true, (colM g.s.clear g.col).s.acc, colNotes g.s.c.muts (colM g.s.clear g.col).what g.col.c (colM g.s.clear g.col).x.cyc, ⟨(colM g.s.clear g.col).s, g.muts, (colM g.s.clear g.col).x⟩⟩
/-- A step of mutator p, which is at x, and has l left. -/
def WS.go (g : WS) (p : Int) (x : MutV) (l : List OpV) (out : List NoteV) : PickR :=
  let r := lispM g.s.clear p x
  ⟨true, r.s.acc, out ++ (if r.lin = true then [⟨p, 2, x.op, if r.x.ret = 5 then 5 else 0⟩] else []) ++ (if r.done = true then [⟨p, 3, x.op, r.x.ret⟩] else []),
    g.setMu p ⟨if r.done = true then MutV.z else r.x, l⟩ r.s⟩
def WS.mutate (g : WS) (p : Int) : PickR :=
  if (g.mu p).x.line = 0 then
    match (g.mu p).left with
    | [] => ⟨false, Acc.z, [], g⟩
    | o :: l => if opOk g.s.c o = true then g.go p (mutBegin o) l [⟨p, 1, o, 0⟩] else ⟨true, Acc.z, [⟨p, 1, o, 0⟩, ⟨p, 3, o, 6⟩], g.setMu p ⟨MutV.z, l⟩ g.s.clear⟩
  else g.go p (g.mu p).x (g.mu p).left []
/-- May process p be picked? -/
def WS.can (g : WS) (p : Int) : Bool := decide (0 ≤ p) && decide (p ≤ g.s.c.muts) && !(decide (p < g.s.c.muts) && decide ((g.mu p).x.line = 0) && (g.mu p).left.isEmpty)
def WS.pick (g : WS) (p : Int) : PickR := if g.can p = true then (if p = g.s.c.muts then g.collect else g.mutate p) else ⟨false, Acc.z, [], g⟩
/-- A world at first. -/
def worldNew (c : Cfg) (programs : List (List OpV)) : WS := ⟨⟨c, firstW c, Acc.z⟩, (List.range c.muts.toNat).map (fun i => ⟨MutV.z, programs.getD i []⟩), colBegin c⟩
/-- Picks, one behind the other. -/
def WS.run (g : WS) : List Int → WS
  | [] => g
  | p :: l => (g.pick p).g.run l
def WS.notes (g : WS) : List Int → List NoteV
  | [] => []
  | p :: l => (g.pick p).notes ++ (g.pick p).g.notes l

end Go.Proofs.Ytfmjnooicjfbbaa
