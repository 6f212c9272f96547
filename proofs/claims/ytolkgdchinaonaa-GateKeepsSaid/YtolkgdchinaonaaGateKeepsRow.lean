/- mudlark's law GateKeeps: the given statement, from the walk. -/
import Derived.Test.YtolkgdchinaonaaRows
import Derived.Test.YtolkgdchinaonaaProg
import Derived.WalkKit
import Derived.JoinedOf
import Derived.Test.YtolkgdchinaonaaGateKeepsWalk
import Derived.Test.YtolkgdchinaonaaMutWf
namespace Go.Proofs.Ytolkgdchinaonaa
open Go.RowKit
set_option linter.unusedVariables false
set_option linter.unusedSimpArgs false

theorem ws_cons (c : Char) (p : List Char) : (wordsSigns (c :: p) = [] :: wordsSigns p ∧ ∀ q, wordsSigns (c :: q) = [] :: wordsSigns q) ∨ (∀ (q : List Char) (v : List Char) (vs : List (List Char)), wordsSigns q = v :: vs → wordsSigns (c :: q) = (c :: v) :: vs) := by
  by_cases h : [c] = " ".toList
  · left
    have hc : ∀ q, wordsSigns (c :: q) = [] :: wordsSigns q := by
      intro q
      have e : c = " ".toList.head! := by rw [← h]; rfl
      rw [e]
      rfl
    exact ⟨hc p, hc⟩
  · right
    intro q v vs hq
    conv => lhs; unfold wordsSigns
    split
    · rename_i e; cases e
    · rename_i r e
      cases e
      exact (h rfl).elim
    · rename_i d r hn e
      cases e
      rw [hq]
theorem ws_app (r a : List Char) (b : List (List Char)) (hr : wordsSigns r = a :: b) : ∀ p : List Char, ∃ us u, wordsSigns p = us ++ [u] ∧ wordsSigns (p ++ r) = us ++ (u ++ a) :: b := by
  intro p
  induction p with
  | nil => exact ⟨[], [], rfl, by simpa using hr⟩
  | cons c p ih =>
    obtain ⟨us, u, h1, h2⟩ := ih
    rw [List.cons_append]
    rcases ws_cons c p with ⟨_, h⟩ | h
    · exact ⟨[] :: us, u, by rw [h, h1]; rfl, by rw [h, h2]; rfl⟩
    · cases us with
      | nil => exact ⟨[], c :: u, h _ _ _ h1, h _ _ _ h2⟩
      | cons v vs => exact ⟨(c :: v) :: vs, u, h _ _ _ h1, h _ _ _ h2⟩
theorem ws_some (r : List Char) : ∃ a b, wordsSigns r = a :: b := by
  cases h : wordsSigns r with
  | cons a b => exact ⟨a, b, rfl⟩
  | nil =>
    exfalso
    unfold wordsSigns at h
    split at h
    · cases h
    · cases h
    · split at h <;> cases h

theorem init_is : Try.prog.initOrder = "harness 1af4f011d3dbf7a831740792c040f08d42a890083560d2915121e6992cf87ae9 cut at mudlark/mudlarklaw31.ReplayGoes mudlark/mudlarklaw31.ReplayPlaces mudlark/mudlarklaw11.TicketQueue mudlark/mudlarklaw12.GateKeeps mudlark/mudlarklaw12.GateGrows mudlark/mudlarklaw18.SweepSweeps mudlark/mudlarklaw17.BarKeeps mudlark/mudlarklaw17.BarOpens mudlark/mudlarklaw16.PassMarks mudlark/mudlarklaw19.CollectorCycles mudlark/mudlarklaw14.LispHolds mudlark/mudlarklaw22.GraphReaches mudlark/mudlarklaw22.GraphClasses mudlark/mudlarklaw22.GraphCloses mudlark/mudlarklaw24.RenameMatches mudlark/mudlarklaw24.RenameBuilds mudlark/mudlarklaw26.AgeBooks" := by kernel_rfl
set_option maxRecDepth 100000 in
theorem init_take : ("harness 1af4f011d3dbf7a831740792c040f08d42a890083560d2915121e6992cf87ae9 cut at mudlark/mudlarklaw31.ReplayGoes mudlark/mudlarklaw31.ReplayPlaces mudlark/mudlarklaw11.TicketQueue mudlark/mudlarklaw12.GateKeeps mudlark/mudlarklaw12.GateGrows mudlark/mudlarklaw18.SweepSweeps mudlark/mudlarklaw17.BarKeeps mudlark/mudlarklaw17.BarOpens mudlark/mudlarklaw16.PassMarks mudlark/mudlarklaw19.CollectorCycles mudlark/mudlarklaw14.LispHolds mudlark/mudlarklaw22.GraphReaches mudlark/mudlarklaw22.GraphClasses mudlark/mudlarklaw22.GraphCloses mudlark/mudlarklaw24.RenameMatches mudlark/mudlarklaw24.RenameBuilds mudlark/mudlarklaw26.AgeBooks" : String).toList.take 80 = "harness 1af4f011d3dbf7a831740792c040f08d42a890083560d2915121e6992cf87ae9 cut at ".toList := by
  rw [show ("harness 1af4f011d3dbf7a831740792c040f08d42a890083560d2915121e6992cf87ae9 cut at mudlark/mudlarklaw31.ReplayGoes mudlark/mudlarklaw31.ReplayPlaces mudlark/mudlarklaw11.TicketQueue mudlark/mudlarklaw12.GateKeeps mudlark/mudlarklaw12.GateGrows mudlark/mudlarklaw18.SweepSweeps mudlark/mudlarklaw17.BarKeeps mudlark/mudlarklaw17.BarOpens mudlark/mudlarklaw16.PassMarks mudlark/mudlarklaw19.CollectorCycles mudlark/mudlarklaw14.LispHolds mudlark/mudlarklaw22.GraphReaches mudlark/mudlarklaw22.GraphClasses mudlark/mudlarklaw22.GraphCloses mudlark/mudlarklaw24.RenameMatches mudlark/mudlarklaw24.RenameBuilds mudlark/mudlarklaw26.AgeBooks" : String) = String.ofList _ from rfl, String.toList_ofList]
  kernel_rfl
theorem init_words : ∃ a b, wordsSigns Try.prog.initOrder.toList = "harness".toList :: "1af4f011d3dbf7a831740792c040f08d42a890083560d2915121e6992cf87ae9".toList :: "cut".toList :: "at".toList :: a :: b := by
  rw [init_is, ← List.take_append_drop 80 ("harness 1af4f011d3dbf7a831740792c040f08d42a890083560d2915121e6992cf87ae9 cut at mudlark/mudlarklaw31.ReplayGoes mudlark/mudlarklaw31.ReplayPlaces mudlark/mudlarklaw11.TicketQueue mudlark/mudlarklaw12.GateKeeps mudlark/mudlarklaw12.GateGrows mudlark/mudlarklaw18.SweepSweeps mudlark/mudlarklaw17.BarKeeps mudlark/mudlarklaw17.BarOpens mudlark/mudlarklaw16.PassMarks mudlark/mudlarklaw19.CollectorCycles mudlark/mudlarklaw14.LispHolds mudlark/mudlarklaw22.GraphReaches mudlark/mudlarklaw22.GraphClasses mudlark/mudlarklaw22.GraphCloses mudlark/mudlarklaw24.RenameMatches mudlark/mudlarklaw24.RenameBuilds mudlark/mudlarklaw26.AgeBooks" : String).toList, init_take]
  obtain ⟨a, b, hr⟩ := ws_some (("harness 1af4f011d3dbf7a831740792c040f08d42a890083560d2915121e6992cf87ae9 cut at mudlark/mudlarklaw31.ReplayGoes mudlark/mudlarklaw31.ReplayPlaces mudlark/mudlarklaw11.TicketQueue mudlark/mudlarklaw12.GateKeeps mudlark/mudlarklaw12.GateGrows mudlark/mudlarklaw18.SweepSweeps mudlark/mudlarklaw17.BarKeeps mudlark/mudlarklaw17.BarOpens mudlark/mudlarklaw16.PassMarks mudlark/mudlarklaw19.CollectorCycles mudlark/mudlarklaw14.LispHolds mudlark/mudlarklaw22.GraphReaches mudlark/mudlarklaw22.GraphClasses mudlark/mudlarklaw22.GraphCloses mudlark/mudlarklaw24.RenameMatches mudlark/mudlarklaw24.RenameBuilds mudlark/mudlarklaw26.AgeBooks" : String).toList.drop 80)
  obtain ⟨us, u, h1, h2⟩ := ws_app _ a b hr "harness 1af4f011d3dbf7a831740792c040f08d42a890083560d2915121e6992cf87ae9 cut at ".toList
  have h3 : wordsSigns "harness 1af4f011d3dbf7a831740792c040f08d42a890083560d2915121e6992cf87ae9 cut at ".toList = ["harness".toList, "1af4f011d3dbf7a831740792c040f08d42a890083560d2915121e6992cf87ae9".toList, "cut".toList, "at".toList] ++ [[]] := by kernel_rfl
  rw [h3] at h1
  obtain ⟨rfl, h4⟩ := List.append_inj_left' h1.symm rfl |> fun e => (⟨e, List.append_inj_right' h1.symm rfl⟩ : us = _ ∧ [u] = _)
  obtain rfl : u = [] := by simpa using h4
  exact ⟨a, b, h2⟩
theorem behind_is (a : List Char) (b : List (List Char)) : behindMainWord ("harness".toList :: "1af4f011d3dbf7a831740792c040f08d42a890083560d2915121e6992cf87ae9".toList :: "cut".toList :: "at".toList :: a :: b) = "cut".toList :: "at".toList :: a :: b := by kernel_rfl
theorem cut_gc : ("cut".toList == "gc".toList) = false := by kernel_rfl
theorem cut_spec : ("cut".toList == "spec".toList) = false := by kernel_rfl
theorem cut_carried : ("cut".toList == "carried".toList) = false := by kernel_rfl
theorem cut_cut : ("cut".toList == "cut".toList) = true := by kernel_rfl
theorem lift_words (ws : List (List Char)) : stripLifts liftWords ("cut".toList :: ws) = ([], "cut".toList :: ws) := by kernel_rfl
theorem make_of (P : Program) (x : List (List Char)) (h : behindMainWord (wordsSigns P.initOrder.toList) = "cut".toList :: x) : P.make = some .cut := by
  unfold Program.make
  rw [h]
  simp only [cut_gc, cut_spec, cut_cut, Bool.or_self, Bool.false_eq_true, if_false, Bool.true_or, if_true]
theorem enter_of (P : Program) (x : List (List Char)) (h : behindMainWord (wordsSigns P.initOrder.toList) = "cut".toList :: x) (h1 : P.laysLater = false) (h2 : P.bearsReflect = false) (h3 : P.doorFits [] = true) : P.mayEnter = true := by
  unfold Program.mayEnter
  rw [h]
  simp only [lift_words, List.head?_cons, h1, h2, h3]
  simp [cut_cut]
theorem lifts_of (P : Program) (x : List (List Char)) (h : behindMainWord (wordsSigns P.initOrder.toList) = "cut".toList :: x) : P.liftsFinal = false := by
  unfold Program.liftsFinal Program.headLifts
  rw [h]
  simp only [lift_words, List.head?_cons]
  have : (some "cut".toList == some "carried".toList) = false := by kernel_rfl
  simp [this]
theorem cut_is : ∃ x, behindMainWord (wordsSigns Try.prog.initOrder.toList) = "cut".toList :: x := by
  obtain ⟨a, b, h⟩ := init_words
  exact ⟨_, (congrArg behindMainWord h).trans (behind_is a b)⟩
theorem make_is : Try.prog.make = some .cut := by obtain ⟨x, h⟩ := cut_is; exact make_of _ x h
theorem lays_is : Try.prog.laysLater = false := by kernel_rfl
theorem reflect_is : Try.prog.bearsReflect = false := by kernel_rfl
theorem door_is : Try.prog.doorFits [] = true := by kernel_rfl
theorem enter_is : Try.prog.mayEnter = true := by obtain ⟨x, h⟩ := cut_is; exact enter_of _ x h lays_is reflect_is door_is
theorem lifts_is : Try.prog.liftsFinal = false := by obtain ⟨x, h⟩ := cut_is; exact lifts_of _ x h

def joinedRest (P : Program) (f : FuncId) (fn : Func) (s : ChangeSpec) (c : OpenClaim) : Bool :=
  c.wf (OpenSpec.ofChange s) && laidOutB P && mapsRowed P &&
  fn.params.all (P.readableRec ·) && namedTie P c.named s.vars &&
  (c.stops == []) && (P.stops == []) && (c.knobs == []) && (P.stopKnobs == []) &&
  (c.inPlace == P.inPlace f) && (c.unfollowed == P.unfollowed f) && (c.recurses == P.recurses f) && (c.named == P.varsNamed f) &&
  (c.maps == (fn.params.toList ++ s.plain.varTypes P).any (P.mapsRec ·)) && (c.ifaces == (fn.params.toList ++ s.plain.varTypes P).any (P.ifacesRec ·)) && (c.mapsOut == P.mapsAmong fn.resultTypes.toList) &&
  (c.loops == (fn.params.toList ++ s.plain.varTypes P).any (P.loopsFrom ·)) && (c.wideKeys == (fn.params.toList ++ s.plain.varTypes P ++ fn.resultTypes.toList).any (P.wideKeysFrom ·)) &&
  s.vars.all (P.varReadable ·) && fn.resultTypes.all (fun t => P.readableRec t && decide (t < P.types.size)) && (c.ifacesOut == fn.resultTypes.toList.any (P.ifacesRec ·)) && (c.loopsOut == fn.resultTypes.toList.any (P.loopsFrom ·)) && (c.plainKeys == P.plainKeys) && c.shortTexts.isNone && P.stopsHeard && true && (c.lifted == false) && (some Make.cut == some c.make) && (c.kinds == (if c.domain.isEmpty then [] else fn.params.toList.map fun t => match P.underlying t with | some (.int k) => some k | _ => none)) && (c.pinned == c.pinnedBy) &&
  (c.veiled == (fn.params.toList ++ s.plain.varTypes P ++ fn.resultTypes.toList).any (P.veiledRec ·)) && c.veiledFits P fn.params.toList (fn.params.toList ++ s.plain.varTypes P ++ fn.resultTypes.toList)
set_option maxRecDepth 100000 in
theorem joined_of {f : FuncId} {fn : Func} {s : ChangeSpec} {c : OpenClaim} (h : joinedRest Try.prog f fn s c = true) : joinedFacts Try.prog f fn s c = true := by
  unfold joinedFacts
  rw [make_is, enter_is, lifts_is]
  exact h

end Go.Proofs.Ytolkgdchinaonaa

namespace Go.Proofs.Ytolkgdchinaonaa
open Go.ChangeShapes Go.WideShapes Go.ChangeAt Go.RowKit

theorem gateKeeps_own : ownKnob Try.prog.godebug = none := by kernel_rfl
theorem gateKeeps_laid : laidOutB Try.prog = true := by kernel_rfl

set_option maxRecDepth 100000 in
set_option maxHeartbeats 400000 in
theorem gateKeeps_lifted (os : Os) (started : os.Started) (H : Type) (enc : TypeId × Value → H) :
    ReturnsInHanded {} Try.checked os 6 .any (Rows.gateKeepsSpec.pre6 enc Try.prog Try.f6 Rows.gateKeepsRow.domain false) (Rows.gateKeepsSpec.post enc Try.prog Try.f6 false true false false) := by
  refine returnsInHanded_of_change_sized (C := Try.checked) gateKeeps_own started (by kernel_rfl) Try.func6
    (ChangeSpec.witness6 (enc := enc) (C := Try.checked) false ⟨#[], #[.int .u8 0, .slice none 0 0], []⟩ 8 (by kernel_rfl) (by kernel_rfl) (by kernel_rfl) (by kernel_rfl)) ?_
  intro W base args ds gs before hval0 hW _ hsz0 _
  have hsz : (DataW.weightsEach Try.prog (Try.f6.params.toList ++ Rows.gateKeepsSpec.plain.varTypes Try.prog) (ds ++ gs)).all (· ≤ reachBytes) = true := hsz0
  clear hsz0
  have hval : OkAll Try.prog W base Try.f6.params args := hval0
  have hW' := hW
  obtain ⟨p, q, hA0, hV, rfl, _, _⟩ := hW
  have hA : DataW.TrodAll enc Try.prog W 0 (fun _ => true) true Try.f6.params.toList args.toList ds p := hA0
  rw [Try.params6] at hA hval hsz
  obtain ⟨v0, vs0, d0, ds0, p0, q0, hargs, rfl, rfl, h0, r0⟩ := trodAll_cons hA
  obtain ⟨v1, vs1, d1, ds1, p1, q1, rfl, rfl, rfl, h1, r1⟩ := trodAll_cons r0
  obtain ⟨rfl, rfl, rfl⟩ := trodAll_nil r1
  obtain rfl : args = #[v0, v1] := by cases args; simp_all
  obtain ⟨rfl, rfl⟩ := trodVars_none hV
  have k0 := h0
  have lt0 : ∀ x ∈ p0, x.block < W.heap.size := by obtain ⟨m, hm⟩ := k0; exact DataW.trod_lt m _ _ _ hm
  obtain ⟨n, rfl, w0_n⟩ := okAll_int hval 0 rfl rfl Try.underlying5 h0
  have wf_n := bounds_u8 w0_n
  have k1 := h1
  have lt1 : ∀ x ∈ p1, x.block < W.heap.size := by obtain ⟨m, hm⟩ := k1; exact DataW.trod_lt m _ _ _ hm
  obtain ⟨l, rd_l, wf_l, dat_l⟩ := flat_bytes (n := 4) Try.underlying42 (by kernel_rfl) (by kernel_rfl) (okAll_slice hval 1 rfl rfl Try.underlying42) h1
  have ln_l : l.length * 1 ≤ 140737488351232 := by
    rcases dat_l with h | ⟨el, sp, rfl, h⟩
    · rw [h.2]; decide
    · have := sized_slice hsz (j := 1) (t := 42) (e := 5) rfl rfl Try.underlying42
      rw [show Try.prog.bytesOf 5 = 1 by kernel_rfl] at this
      simp only [reachBytes] at this
      omega
  clear hA0 hval0
  refine (gateKeeps_any n (by omega) _ l W rd_l wf_l).mono fun e W' ⟨he, hFr⟩ => ?_
  subst he
  have bel := hFr.below (B := W.heap.size) (Nat.le_refl _) (by simp)
  exact ⟨_, rfl, _, _, _, [], _, [], hW', trodAll_mk1 (shut_bool Try.underlying4 _), (trodAll_cons_mk (Below.trod gateKeeps_laid (by kernel_rfl) (of_decide_eq_true (by kernel_rfl)) k0 bel lt0) (trodAll_cons_mk (Below.trod gateKeeps_laid (by kernel_rfl) (of_decide_eq_true (by kernel_rfl)) k1 bel lt1) trodAll_mk0)), rfl, bel.frame _, fun h => by cases h⟩

theorem gateKeeps_proved : Rows.GateKeepsSaid :=
  OpenClaim.holds_of_wide 6 Try.f6 rfl rfl rfl rfl rfl rfl rfl ⟨rfl, rfl, rfl, rfl, rfl⟩ rfl rfl rfl rfl rfl (by kernel_rfl) Try.func6 (joined_of (by kernel_rfl))
    (of_decide_eq_true (by kernel_rfl)) (by unfold Func.isWrapper; first | (rw [if_pos (by decide +kernel)]; kernel_rfl) | (rw [if_neg (by decide +kernel)]; exact ⟨rfl, rfl⟩))
    (fun os started H enc _ => gateKeeps_lifted os started H enc)

end Go.Proofs.Ytolkgdchinaonaa
