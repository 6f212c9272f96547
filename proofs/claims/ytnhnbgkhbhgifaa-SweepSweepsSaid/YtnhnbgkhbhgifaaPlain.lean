/- The plain model: configurations, words, hands, and each machine's step as a plain function. No program is named here. -/
import Derived.Test.YtnhnbgkhbhgifaaBase
namespace Go.Proofs.Ytnhnbgkhbhgifaa
open Go.RowKit
set_option linter.unusedVariables false
set_option linter.unusedSimpArgs false

/-- A configuration. -/
structure Cfg where
  cells : Int
  muts : Int
  regs : Int
  globs : Int
  deriving DecidableEq
abbrev Cfg.val (c : Cfg) : Value := .agg #[.int .i64 c.cells, .int .i64 c.muts, .int .i64 c.regs, .int .i64 c.globs]
def Cfg.cs (c : Cfg) : List Value := [.int .i64 c.cells, .int .i64 c.muts, .int .i64 c.regs, .int .i64 c.globs]
structure Cfg.Right (c : Cfg) : Prop where
  c0 : 2 ≤ c.cells
  c1 : c.cells ≤ 4096
  m0 : 1 ≤ c.muts
  m1 : c.muts ≤ 63
  r0 : 1 ≤ c.regs
  r1 : c.regs ≤ 64
  g0 : 0 ≤ c.globs
  g1 : c.globs ≤ 64
def Cfg.right (c : Cfg) : Bool := decide (2 ≤ c.cells) && decide (c.cells ≤ 4096) && decide (1 ≤ c.muts) && decide (c.muts ≤ 63) && decide (1 ≤ c.regs) && decide (c.regs ≤ 64) && decide (0 ≤ c.globs) && decide (c.globs ≤ 64)
def Cfg.roots (c : Cfg) : Int := 1 + c.globs + c.muts * c.regs
def Cfg.words (c : Cfg) : Int := 4 + c.muts + c.roots + 3 * c.cells

def Cfg.gA (c : Cfg) : Int := 5 + c.muts
def Cfg.rA (c : Cfg) : Int := 5 + c.muts + c.globs
def Cfg.cA (c : Cfg) : Int := 5 + c.muts + c.globs + c.muts * c.regs
/-- The i-th of so many things. -/
def pAt (fr i many a : Int) : Int := if 0 ≤ i ∧ i < many then fr + i * a else -1
def Cfg.inP (c : Cfg) (i : Int) : Int := pAt 5 i c.muts 1
def Cfg.globP (c : Cfg) (g : Int) : Int := pAt c.gA g c.globs 1
def Cfg.regP (c : Cfg) (m r : Int) : Int := if 0 ≤ m ∧ m < c.muts then pAt (c.rA + m * c.regs) r c.regs 1 else -1
/-- A part of a cell: 0 its car, 1 its cdr, 2 its colour. -/
def Cfg.cellP (c : Cfg) (p i : Int) : Int := pAt (c.cA + p) i c.cells 3
def Cfg.rootP (c : Cfg) (j : Int) : Int := if j = 0 then 0 else pAt c.gA (j - 1) (c.globs + c.muts * c.regs) 1

/-- A cell's number; -1: the word is none. -/
def cellN (w : Int) : Int := if w % 2 = 1 ∧ w < 8192 then w / 2 else -1
def cellW (i : Int) : Int := if 0 ≤ i ∧ i < 4096 then i * 2 + 1 else 0
def isCell (w : Int) : Bool := decide (w % 2 = 1) && decide (w < 8192)

/-- The word at a place; 0: it isn't there. -/
def wAt (ws : List Int) (i : Int) : Int := if 0 ≤ i ∧ i < ws.length then ws.getD i.toNat 0 else 0
/-- x + y of words. -/
def addW (x y : Int) : Int := (x + y) % 18446744073709551616
/-- An access. -/
structure Acc where
  kind : Int
  at_ : Int
  x : Int
  y : Int
  old : Int
  deriving DecidableEq
def Acc.z : Acc := ⟨0, 0, 0, 0, 0⟩
def Acc.cs (a : Acc) : List Value := [.int .i64 a.kind, .int .i64 a.at_, .int .u64 a.x, .int .u64 a.y, .int .u64 a.old]
abbrev Acc.val (a : Acc) : Value := .agg #[.int .i64 a.kind, .int .i64 a.at_, .int .u64 a.x, .int .u64 a.y, .int .u64 a.old]
/-- What an access leaves of the word w. -/
def Acc.new (a : Acc) (o : Int) : Int := if a.kind = 2 then a.x else if a.kind = 3 then (if o = a.x then a.y else o) else if a.kind = 4 then addW o a.x else o
def Acc.ok (a : Acc) (ws : List Int) : Bool := 1 ≤ a.kind && a.kind ≤ 4 && 0 ≤ a.at_ && a.at_ < ws.length
/-- An access, done: what is told, and the words. -/
def Acc.done (a : Acc) (ws : List Int) : Acc := if a.ok ws then { a with old := wAt ws a.at_ } else Acc.z
def Acc.ws (a : Acc) (ws : List Int) : List Int := if a.ok ws then ws.set a.at_.toNat (a.new (wAt ws a.at_)) else ws

/-- A hand: configuration, words, the access that is noted. -/
structure HS where
  c : Cfg
  ws : List Int
  acc : Acc
/-- What a load, a store, a compare-and-swap, an addition does to a hand. -/
def HS.doIt (s : HS) (a : Acc) : HS := ⟨s.c, a.ws s.ws, a.done s.ws⟩
def aLoad (i : Int) : Acc := ⟨1, i, 0, 0, 0⟩
def aStore (i x : Int) : Acc := ⟨2, i, x, 0, 0⟩
def aCas (i x y : Int) : Acc := ⟨3, i, x, y, 0⟩
def aAdd (i x : Int) : Acc := ⟨4, i, x, 0, 0⟩
/-- Was the swap made? -/
def HS.won (s : HS) (i x : Int) : Bool := decide (0 ≤ i) && decide (i < s.ws.length) && decide (wAt s.ws i = x)

/-- The words at first, when so many cells have been linked. -/
def firstAt (c : Cfg) (i k : Int) : Int := if k = 0 then 1 else if c.cA ≤ k ∧ (k - c.cA) % 3 = 1 ∧ (k - c.cA) / 3 < i then 2 * ((k - c.cA) / 3 + 1) + 1 else 0
def firstTo (c : Cfg) (i : Int) : List Int := (List.range c.words.toNat).map fun (k : Nat) => firstAt c i (k : Int)
def firstW (c : Cfg) : List Int := firstTo c (c.cells - 1)
/-- The place of a part of a word that may be a cell. -/
def Cfg.fieldP (c : Cfg) (x p : Int) : Int := if isCell x = true ∧ 0 ≤ p ∧ p ≤ 2 then c.cellP p (x / 2) else -1

/-- A mutator. -/
structure MutV where
  line : Int
  ok : Int
  oa : Int
  ob : Int
  oc : Int
  a : Int
  b : Int
  c : Int
  n : Int
  t : Int
  p : Int
  back : Int
  ret : Int
  deriving DecidableEq
def MutV.cells (x : MutV) : List Value := [.int .i64 x.line, .int .i64 x.ok, .int .i64 x.oa, .int .i64 x.ob, .int .i64 x.oc, .int .u64 x.a, .int .u64 x.b, .int .u64 x.c, .int .u64 x.n, .int .u64 x.t, .int .u64 x.p, .int .i64 x.back, .int .i64 x.ret]
def MutV.val (x : MutV) : Value := .agg #[.int .i64 x.line, .int .i64 x.ok, .int .i64 x.oa, .int .i64 x.ob, .int .i64 x.oc, .int .u64 x.a, .int .u64 x.b, .int .u64 x.c, .int .u64 x.n, .int .u64 x.t, .int .u64 x.p, .int .i64 x.back, .int .i64 x.ret]
structure MutV.Wf (x : MutV) : Prop where
  line : -9223372036854775808 ≤ x.line ∧ x.line ≤ 9223372036854775807
  ok : -9223372036854775808 ≤ x.ok ∧ x.ok ≤ 9223372036854775807
  oa : -9223372036854775808 ≤ x.oa ∧ x.oa ≤ 9223372036854775807
  ob : -9223372036854775808 ≤ x.ob ∧ x.ob ≤ 9223372036854775807
  oc : -9223372036854775808 ≤ x.oc ∧ x.oc ≤ 9223372036854775807
  a : 0 ≤ x.a ∧ x.a < 18446744073709551616
  b : 0 ≤ x.b ∧ x.b < 18446744073709551616
  c : 0 ≤ x.c ∧ x.c < 18446744073709551616
  n : 0 ≤ x.n ∧ x.n < 18446744073709551616
  t : 0 ≤ x.t ∧ x.t < 18446744073709551616
  p : 0 ≤ x.p ∧ x.p < 18446744073709551616
  back : -9223372036854775808 ≤ x.back ∧ x.back ≤ 9223372036854775807
  ret : -9223372036854775808 ≤ x.ret ∧ x.ret ≤ 9223372036854775807
structure MutR where
  x : MutV
  is : Bool
  s : HS

/-- A collector. -/
structure ColV where
  line : Int
  j : Int
  c : Int
  m : Int
  a : Int
  p : Int
  found : Bool
  tail : Int
  cyc : Int
  deriving DecidableEq
def ColV.val (x : ColV) : Value := .agg #[.int .i64 x.line, .int .i64 x.j, .int .i64 x.c, .int .i64 x.m, .int .u64 x.a, .int .u64 x.p, .bool x.found, .int .i64 x.tail, .int .i64 x.cyc]
structure ColV.Wf (x : ColV) : Prop where
  line : -9223372036854775808 ≤ x.line ∧ x.line ≤ 9223372036854775807
  j : -9223372036854775808 ≤ x.j ∧ x.j ≤ 9223372036854775807
  c : -9223372036854775808 ≤ x.c ∧ x.c ≤ 9223372036854775807
  m : -9223372036854775808 ≤ x.m ∧ x.m ≤ 9223372036854775807
  a : 0 ≤ x.a ∧ x.a < 18446744073709551616
  p : 0 ≤ x.p ∧ x.p < 18446744073709551616
  tail : -9223372036854775808 ≤ x.tail ∧ x.tail ≤ 9223372036854775807
  cyc : -9223372036854775808 ≤ x.cyc ∧ x.cyc ≤ 9223372036854775807

structure ColV.Near (x : ColV) : Prop where
  j : -1000000 ≤ x.j ∧ x.j ≤ 1000000
  c : -1000000 ≤ x.c ∧ x.c ≤ 1000000
  m : -1000000 ≤ x.m ∧ x.m ≤ 1000000
  tail : -1000000 ≤ x.tail ∧ x.tail ≤ 1000000
  cyc : -1000000 ≤ x.cyc ∧ x.cyc ≤ 1000000

def brOn (x : MutV) : MutV := { x with p := 0, line := x.back, back := 0 }
def brBegin (x : MutV) (w back : Int) : MutV := if isCell w then { x with p := w, back := back, line := 80 } else { x with p := 0, back := 0, line := back }
def brM (s : HS) (x : MutV) : MutR :=
  if x.line = 80 then (if s.won (s.c.fieldP x.p 2) 0 then ⟨{ x with p := 0, line := 81 }, true, s.doIt (aCas (s.c.fieldP x.p 2) 0 1)⟩ else ⟨brOn x, true, s.doIt (aCas (s.c.fieldP x.p 2) 0 1)⟩)
  else if x.line = 81 then ⟨brOn x, true, s.doIt (aStore 2 1)⟩
  else ⟨x, false, s⟩

structure PopR where
  x : MutV
  lin : Bool
  is : Bool
  s : HS
def popM (s : HS) (x : MutV) : PopR :=
  if x.line = 34 then ⟨{ x with c := wAt s.ws 0, line := 35 }, false, true, s.doIt (aLoad 0)⟩
  else if x.line = 35 then (if isCell (wAt s.ws (s.c.fieldP x.c 1)) = true then ⟨{ x with n := wAt s.ws (s.c.fieldP x.c 1), line := 36 }, false, true, s.doIt (aLoad (s.c.fieldP x.c 1))⟩ else ⟨{ x with n := wAt s.ws (s.c.fieldP x.c 1), ret := 5, line := 41 }, true, true, s.doIt (aLoad (s.c.fieldP x.c 1))⟩)
  else if x.line = 36 then ⟨brBegin x x.n 37, true, true, s.doIt (aStore 0 x.n)⟩
  else ⟨x, false, false, s⟩

def tkM (s : HS) (x : MutV) : MutR :=
  if x.line = 32 then ⟨{ x with line := 33, t := wAt s.ws 3 }, true, s.doIt (aAdd 3 1)⟩
  else if x.line = 33 then (if wAt s.ws 4 = x.t then ⟨{ x with line := 34 }, true, s.doIt (aLoad 4)⟩ else ⟨x, true, s.doIt (aLoad 4)⟩)
  else if x.line = 37 then ⟨{ x with line := 38 }, true, s.doIt (aAdd 4 1)⟩
  else if x.line = 41 then ⟨{ x with line := 90 }, true, s.doIt (aAdd 4 1)⟩
  else ⟨x, false, s⟩

structure ColR where
  x : ColV
  is : Bool
  s : HS
def rsBegin (x : ColV) : ColV := { x with line := 1, j := 0, p := 0 }
def rsNext (c : Cfg) (x : ColV) : ColV := { x with p := 0, j := x.j + 1, line := if x.j + 1 < c.roots then 1 else 3 }
def rsM (s : HS) (x : ColV) : ColR :=
  if x.line = 1 then (if isCell (wAt s.ws (s.c.rootP x.j)) = true then ⟨{ x with p := wAt s.ws (s.c.rootP x.j), line := 2 }, true, s.doIt (aLoad (s.c.rootP x.j))⟩ else ⟨rsNext s.c x, true, s.doIt (aLoad (s.c.rootP x.j))⟩)
  else if x.line = 2 then ⟨rsNext s.c x, true, s.doIt (aCas (s.c.fieldP x.p 2) 0 1)⟩
  else ⟨x, false, s⟩

structure SwR where
  x : ColV
  what : Int
  is : Bool
  s : HS
def swNext (cfg : Cfg) (x : ColV) (what : Int) (s : HS) : SwR :=
  if x.c + 1 < cfg.cells then ⟨{ x with c := x.c + 1, line := 20 }, what, true, s⟩ else ⟨{ x with c := x.c + 1, line := 1, j := 0, p := 0, cyc := x.cyc + 1 }, what + 3, true, s⟩
def swM (s : HS) (x : ColV) : SwR :=
  if x.line = 20 then (if wAt s.ws (s.c.cellP 2 x.c) = 0 then ⟨{ x with line := 21 }, 0, true, s.doIt (aLoad (s.c.cellP 2 x.c))⟩ else if wAt s.ws (s.c.cellP 2 x.c) = 2 then ⟨{ x with line := 24 }, 0, true, s.doIt (aLoad (s.c.cellP 2 x.c))⟩ else swNext s.c x 0 (s.doIt (aLoad (s.c.cellP 2 x.c))))
  else if x.line = 21 then ⟨{ x with line := 22 }, 0, true, s.doIt (aStore (s.c.cellP 0 x.c) 0)⟩
  else if x.line = 22 then ⟨{ x with line := 23 }, 0, true, s.doIt (aStore (s.c.cellP 1 x.c) 0)⟩
  else if x.line = 23 then swNext s.c { x with tail := x.c } 2 (s.doIt (aStore (s.c.cellP 1 x.tail) (cellW x.c)))
  else if x.line = 24 then swNext s.c x 0 (s.doIt (aStore (s.c.cellP 2 x.c) 0))
  else ⟨x, 0, false, s⟩

/-- The cells of the list that begins with the word u, behind those of out. -/
def popGo (c : Cfg) (l : List Int) : Nat → Int → List Int → Option (List Int)
  | 0, _, _ => none
  | f + 1, u, out => if u = 0 ∧ ¬ out = [] then some out else if isCell u = true ∧ u / 2 < c.cells ∧ ¬ u / 2 ∈ out then popGo c l f (wAt l (c.cellP 1 (u / 2))) (out ++ [u / 2]) else none
def popList (c : Cfg) (l : List Int) : Option (List Int) := popGo c l (c.cells.toNat + 1) (wAt l 0) []

def holdsB (line back : Int) : Bool := line == 34 || line == 35 || line == 36 || line == 37 || line == 41 || ((line == 80 || line == 81) && back == 37)

def scannedN (line j : Int) : Int := if line = 1 ∨ line = 2 then j else if 3 ≤ line ∧ line ≤ 16 then -1 else 0

def Cfg.great (c : Cfg) : Bool := decide (30 < c.cells) || decide (12 < c.muts) || decide (8 < c.regs) || decide (8 < c.globs)

/- The other machines. -/
def gFirst (k : Int) : Int :=
  if k = 1 then 10 else if k = 2 then 11 else if k = 3 then 30 else if k = 4 then 13 else if k = 5 then 13 else if k = 6 then 16 else if k = 7 then 16 else if k = 8 then 19 else if k = 9 then 20 else if k = 10 then 22 else if k = 11 then 24 else 90
def gateM (s : HS) (m : Int) (x : MutV) : MutR :=
  if x.line = 1 then ⟨{ x with line := 2 }, true, s.doIt (aAdd (s.c.inP m) 1)⟩
  else if x.line = 2 then ⟨{ x with line := if wAt s.ws 1 = 0 then 3 else 4 }, true, s.doIt (aLoad 1)⟩
  else if x.line = 3 then ⟨{ x with line := gFirst x.ok }, true, s.doIt (aAdd (s.c.inP m) 1)⟩
  else if x.line = 4 then ⟨{ x with line := 5 }, true, s.doIt (aAdd (s.c.inP m) 2)⟩
  else if x.line = 5 then ⟨{ x with line := if wAt s.ws 1 = 0 then 6 else 5 }, true, s.doIt (aLoad 1)⟩
  else if x.line = 6 then ⟨{ x with line := gFirst x.ok }, true, s.doIt (aAdd (s.c.inP m) 3)⟩
  else if x.line = 90 then ⟨{ x with line := 0 }, true, s.doIt (aAdd (s.c.inP m) 2)⟩
  else ⟨x, false, s⟩
def insideB (line : Int) : Bool := line == 3 || decide (5 < line)

structure BaR where
  x : ColV
  flip : Bool
  is : Bool
  s : HS
def barPass (c : Cfg) (x : ColV) (line behind : Int) : ColV := if c.muts ≤ x.m + 1 then { x with m := 0, line := behind } else { x with m := x.m + 1, line := line }
def barM (s : HS) (x : ColV) : BaR :=
  if x.line = 10 then (if wAt s.ws (s.c.inP x.m) % 4 = 0 ∨ wAt s.ws (s.c.inP x.m) % 4 = 2 then ⟨barPass s.c { x with a := 0 } 10 11, false, true, s.doIt (aLoad (s.c.inP x.m))⟩ else ⟨{ x with a := wAt s.ws (s.c.inP x.m), line := 16 }, false, true, s.doIt (aLoad (s.c.inP x.m))⟩)
  else if x.line = 16 then (if wAt s.ws (s.c.inP x.m) = x.a then ⟨x, false, true, s.doIt (aLoad (s.c.inP x.m))⟩ else if wAt s.ws (s.c.inP x.m) % 4 = 3 then ⟨{ x with a := wAt s.ws (s.c.inP x.m) }, false, true, s.doIt (aLoad (s.c.inP x.m))⟩ else ⟨barPass s.c { x with a := 0 } 10 11, false, true, s.doIt (aLoad (s.c.inP x.m))⟩)
  else if x.line = 11 then ⟨{ x with line := 12 }, false, true, s.doIt (aStore 1 1)⟩
  else if x.line = 12 then (if wAt s.ws (s.c.inP x.m) % 4 = 0 ∨ wAt s.ws (s.c.inP x.m) % 4 = 3 then ⟨barPass s.c x 12 13, false, true, s.doIt (aLoad (s.c.inP x.m))⟩ else ⟨x, false, true, s.doIt (aLoad (s.c.inP x.m))⟩)
  else if x.line = 13 then (if wAt s.ws 2 = 0 then ⟨{ x with line := 14 }, true, true, s.doIt (aLoad 2)⟩ else ⟨{ x with line := 15 }, false, true, s.doIt (aLoad 2)⟩)
  else if x.line = 14 then ⟨{ x with c := 0, line := 20 }, false, true, s.doIt (aStore 1 0)⟩
  else if x.line = 15 then ⟨{ x with line := 3 }, false, true, s.doIt (aStore 1 0)⟩
  else ⟨x, false, false, s⟩
def passNext (c : Cfg) (x : ColV) : ColV := if x.c + 1 < c.cells then { x with c := x.c + 1, line := 4 } else if x.found = true then { x with c := x.c + 1, line := 3 } else { x with c := x.c + 1, m := 0, line := 10 }
def passM (s : HS) (x : ColV) : ColR :=
  if x.line = 3 then ⟨{ x with c := 0, found := false, line := 4 }, true, s.doIt (aStore 2 0)⟩
  else if x.line = 4 then ⟨if wAt s.ws (s.c.cellP 2 x.c) = 1 then { x with line := 5 } else passNext s.c x, true, s.doIt (aLoad (s.c.cellP 2 x.c))⟩
  else if x.line = 5 then ⟨{ x with a := wAt s.ws (s.c.cellP 0 x.c), line := if isCell (wAt s.ws (s.c.cellP 0 x.c)) = true then 6 else 7 }, true, s.doIt (aLoad (s.c.cellP 0 x.c))⟩
  else if x.line = 6 then ⟨{ x with line := 7 }, true, s.doIt (aCas (s.c.fieldP x.a 2) 0 1)⟩
  else if x.line = 7 then ⟨{ x with a := wAt s.ws (s.c.cellP 1 x.c), line := if isCell (wAt s.ws (s.c.cellP 1 x.c)) = true then 8 else 9 }, true, s.doIt (aLoad (s.c.cellP 1 x.c))⟩
  else if x.line = 8 then ⟨{ x with line := 9 }, true, s.doIt (aCas (s.c.fieldP x.a 2) 0 1)⟩
  else if x.line = 9 then ⟨passNext s.c { x with a := 0, found := true }, true, s.doIt (aStore (s.c.cellP 2 x.c) 2)⟩
  else ⟨x, false, s⟩
/-- A step of the collector: what it was. -/
structure CoR where
  x : ColV
  what : Int
  s : HS
def HS.clear (s : HS) : HS := { s with acc := Acc.z }
def colStep (s : HS) (x : ColV) : CoR :=
  if (rsM s x).is = true then ⟨(rsM s x).x, 0, (rsM s x).s⟩
  else if (passM s x).is = true then ⟨(passM s x).x, 0, (passM s x).s⟩
  else if (barM s x).is = true then ⟨(barM s x).x, if (barM s x).flip = true then 1 else 0, (barM s x).s⟩
  else if (swM s x).is = true then ⟨(swM s x).x, (swM s x).what, (swM s x).s⟩
  else ⟨x, 0, s⟩
def colM (s : HS) (x : ColV) : CoR := colStep s.clear x
def colBegin (c : Cfg) : ColV := ⟨1, 0, 0, 0, 0, 0, false, c.cells - 1, 0⟩

/-- A step of a mutator: whether it is the linearising one, whether it is done. -/
structure LiR where
  x : MutV
  lin : Bool
  done : Bool
  s : HS
def halfP (k : Int) : Int := if k = 4 ∨ k = 6 then 0 else 1
def endL (x : MutV) (ret : Int) : MutV := { x with ret := ret, line := 90 }
/-- The lines of its own. -/
def ownM (s : HS) (m : Int) (x : MutV) : LiR :=
  if x.line = 10 then ⟨endL x 1, true, false, s.doIt (aStore (s.c.regP m x.oa) (if x.ob < 0 then 0 else x.ob * 2))⟩
  else if x.line = 11 then ⟨{ x with a := wAt s.ws (s.c.regP m x.ob), line := 12 }, false, false, s.doIt (aLoad (s.c.regP m x.ob))⟩
  else if x.line = 12 then ⟨brBegin { x with ret := 1 } x.a 90, true, false, s.doIt (aStore (s.c.regP m x.oa) x.a)⟩
  else if x.line = 13 then (if isCell (wAt s.ws (s.c.regP m x.ob)) = true then ⟨{ x with a := wAt s.ws (s.c.regP m x.ob), line := 14 }, false, false, s.doIt (aLoad (s.c.regP m x.ob))⟩ else ⟨endL { x with a := wAt s.ws (s.c.regP m x.ob) } 4, true, false, s.doIt (aLoad (s.c.regP m x.ob))⟩)
  else if x.line = 14 then ⟨{ x with b := wAt s.ws (s.c.fieldP x.a (halfP x.ok)), line := 15 }, true, false, s.doIt (aLoad (s.c.fieldP x.a (halfP x.ok)))⟩
  else if x.line = 15 then ⟨brBegin { x with ret := 1 } x.b 90, false, false, s.doIt (aStore (s.c.regP m x.oa) x.b)⟩
  else if x.line = 16 then (if isCell (wAt s.ws (s.c.regP m x.oa)) = true then ⟨{ x with a := wAt s.ws (s.c.regP m x.oa), line := 17 }, false, false, s.doIt (aLoad (s.c.regP m x.oa))⟩ else ⟨endL { x with a := wAt s.ws (s.c.regP m x.oa) } 4, true, false, s.doIt (aLoad (s.c.regP m x.oa))⟩)
  else if x.line = 17 then ⟨{ x with b := wAt s.ws (s.c.regP m x.ob), line := 18 }, false, false, s.doIt (aLoad (s.c.regP m x.ob))⟩
  else if x.line = 18 then ⟨brBegin { x with ret := 1 } x.b 90, true, false, s.doIt (aStore (s.c.fieldP x.a (halfP x.ok)) x.b)⟩
  else if x.line = 19 then ⟨{ x with b := wAt s.ws (s.c.globP x.ob), line := 15 }, true, false, s.doIt (aLoad (s.c.globP x.ob))⟩
  else if x.line = 20 then ⟨{ x with b := wAt s.ws (s.c.regP m x.ob), line := 21 }, false, false, s.doIt (aLoad (s.c.regP m x.ob))⟩
  else if x.line = 21 then ⟨brBegin { x with ret := 1 } x.b 90, true, false, s.doIt (aStore (s.c.globP x.oa) x.b)⟩
  else if x.line = 22 then ⟨{ x with a := wAt s.ws (s.c.regP m x.oa), line := 23 }, false, false, s.doIt (aLoad (s.c.regP m x.oa))⟩
  else if x.line = 23 then ⟨endL { x with b := wAt s.ws (s.c.regP m x.ob) } (if x.a = wAt s.ws (s.c.regP m x.ob) then 2 else 3), true, false, s.doIt (aLoad (s.c.regP m x.ob))⟩
  else if x.line = 24 then ⟨endL { x with a := wAt s.ws (s.c.regP m x.oa) } (if isCell (wAt s.ws (s.c.regP m x.oa)) = true then 3 else 2), true, false, s.doIt (aLoad (s.c.regP m x.oa))⟩
  else if x.line = 30 then ⟨{ x with a := wAt s.ws (s.c.regP m x.ob), line := 31 }, false, false, s.doIt (aLoad (s.c.regP m x.ob))⟩
  else if x.line = 31 then ⟨{ x with b := wAt s.ws (s.c.regP m x.oc), line := 32 }, false, false, s.doIt (aLoad (s.c.regP m x.oc))⟩
  else if x.line = 38 then ⟨brBegin x x.a 39, false, false, s.doIt (aStore (s.c.fieldP x.c 0) x.a)⟩
  else if x.line = 39 then ⟨brBegin x x.b 40, false, false, s.doIt (aStore (s.c.fieldP x.c 1) x.b)⟩
  else if x.line = 40 then ⟨brBegin { x with ret := 1 } x.c 90, false, false, s.doIt (aStore (s.c.regP m x.oa) x.c)⟩
  else ⟨x, false, false, s⟩
def lispStep (s : HS) (m : Int) (x : MutV) : LiR :=
  if (gateM s m x).is = true then ⟨(gateM s m x).x, false, (gateM s m x).x.line == 0, (gateM s m x).s⟩
  else if (tkM s x).is = true then ⟨(tkM s x).x, false, false, (tkM s x).s⟩
  else if (popM s x).is = true then ⟨(popM s x).x, (popM s x).lin, false, (popM s x).s⟩
  else if (brM s x).is = true then ⟨(brM s x).x, false, (brM s x).x.line == 0, (brM s x).s⟩
  else ownM s m x
def lispM (s : HS) (m : Int) (x : MutV) : LiR := lispStep s.clear m x

end Go.Proofs.Ytnhnbgkhbhgifaa
