/- mudlark's law SweepSweeps: the given statement, from the walk. -/
import Derived.Test.YtnhnbgkhbhgifaaRows
import Derived.Test.YtnhnbgkhbhgifaaProg
import Derived.WalkKit
import Derived.JoinedOf
import Derived.Test.YtnhnbgkhbhgifaaFlat
import Derived.Test.YtnhnbgkhbhgifaaConfig
import Derived.Test.YtnhnbgkhbhgifaaSweepSweepsWalk
import Derived.Test.YtnhnbgkhbhgifaaCapOf
namespace Go.Proofs.Ytnhnbgkhbhgifaa
open Go.RowKit
set_option linter.unusedVariables false
set_option linter.unusedSimpArgs false

theorem ws_cons (c : Char) (p : List Char) : (wordsSigns (c :: p) = [] :: wordsSigns p ∧ ∀ q, wordsSigns (c :: q) = [] :: wordsSigns q) ∨ (∀ (q : List Char) (v : List Char) (vs : List (List Char)), wordsSigns q = v :: vs → wordsSigns (c :: q) = (c :: v) :: vs) := by
  by_cases h : [c] = " ".toList
  · left
    have hc : ∀ q, wordsSigns (c :: q) = [] :: wordsSigns q := by
      intro q
      have e : c = " ".toList.head! := by rw [← h]; rfl
      rw [e]
      rfl
    exact ⟨hc p, hc⟩
  · right
    intro q v vs hq
    conv => lhs; unfold wordsSigns
    split
    · rename_i e; cases e
    · rename_i r e
      cases e
      exact (h rfl).elim
    · rename_i d r hn e
      cases e
      rw [hq]
theorem ws_app (r a : List Char) (b : List (List Char)) (hr : wordsSigns r = a :: b) : ∀ p : List Char, ∃ us u, wordsSigns p = us ++ [u] ∧ wordsSigns (p ++ r) = us ++ (u ++ a) :: b := by
  intro p
  induction p with
  | nil => exact ⟨[], [], rfl, by simpa using hr⟩
  | cons c p ih =>
    obtain ⟨us, u, h1, h2⟩ := ih
    rw [List.cons_append]
    rcases ws_cons c p with ⟨_, h⟩ | h
    · exact ⟨[] :: us, u, by rw [h, h1]; rfl, by rw [h, h2]; rfl⟩
    · cases us with
      | nil => exact ⟨[], c :: u, h _ _ _ h1, h _ _ _ h2⟩
      | cons v vs => exact ⟨(c :: v) :: vs, u, h _ _ _ h1, h _ _ _ h2⟩
theorem ws_some (r : List Char) : ∃ a b, wordsSigns r = a :: b := by
  cases h : wordsSigns r with
  | cons a b => exact ⟨a, b, rfl⟩
  | nil =>
    exfalso
    unfold wordsSigns at h
    split at h
    · cases h
    · cases h
    · split at h <;> cases h

theorem init_is : Try.prog.initOrder = "harness bcd4ed4800cb2f8d89dc493570e994075ec3191f238cf7dc3f0559e7d9759ffe cut at mudlark/mudlarklaw31.ReplayGoes mudlark/mudlarklaw31.ReplayPlaces mudlark/mudlarklaw11.TicketQueue mudlark/mudlarklaw18.SweepSweeps mudlark/mudlarklaw19.CollectorCycles mudlark/mudlarklaw22.GraphReaches mudlark/mudlarklaw22.GraphClasses mudlark/mudlarklaw22.GraphCloses mudlark/mudlarklaw24.RenameMatches mudlark/mudlarklaw24.RenameBuilds mudlark/mudlarklaw26.AgeBooks" := by kernel_rfl
set_option maxRecDepth 100000 in
theorem init_take : ("harness bcd4ed4800cb2f8d89dc493570e994075ec3191f238cf7dc3f0559e7d9759ffe cut at mudlark/mudlarklaw31.ReplayGoes mudlark/mudlarklaw31.ReplayPlaces mudlark/mudlarklaw11.TicketQueue mudlark/mudlarklaw18.SweepSweeps mudlark/mudlarklaw19.CollectorCycles mudlark/mudlarklaw22.GraphReaches mudlark/mudlarklaw22.GraphClasses mudlark/mudlarklaw22.GraphCloses mudlark/mudlarklaw24.RenameMatches mudlark/mudlarklaw24.RenameBuilds mudlark/mudlarklaw26.AgeBooks" : String).toList.take 80 = "harness bcd4ed4800cb2f8d89dc493570e994075ec3191f238cf7dc3f0559e7d9759ffe cut at ".toList := by
  rw [show ("harness bcd4ed4800cb2f8d89dc493570e994075ec3191f238cf7dc3f0559e7d9759ffe cut at mudlark/mudlarklaw31.ReplayGoes mudlark/mudlarklaw31.ReplayPlaces mudlark/mudlarklaw11.TicketQueue mudlark/mudlarklaw18.SweepSweeps mudlark/mudlarklaw19.CollectorCycles mudlark/mudlarklaw22.GraphReaches mudlark/mudlarklaw22.GraphClasses mudlark/mudlarklaw22.GraphCloses mudlark/mudlarklaw24.RenameMatches mudlark/mudlarklaw24.RenameBuilds mudlark/mudlarklaw26.AgeBooks" : String) = String.ofList _ from rfl, String.toList_ofList]
  kernel_rfl
theorem init_words : ∃ a b, wordsSigns Try.prog.initOrder.toList = "harness".toList :: "bcd4ed4800cb2f8d89dc493570e994075ec3191f238cf7dc3f0559e7d9759ffe".toList :: "cut".toList :: "at".toList :: a :: b := by
  rw [init_is, ← List.take_append_drop 80 ("harness bcd4ed4800cb2f8d89dc493570e994075ec3191f238cf7dc3f0559e7d9759ffe cut at mudlark/mudlarklaw31.ReplayGoes mudlark/mudlarklaw31.ReplayPlaces mudlark/mudlarklaw11.TicketQueue mudlark/mudlarklaw18.SweepSweeps mudlark/mudlarklaw19.CollectorCycles mudlark/mudlarklaw22.GraphReaches mudlark/mudlarklaw22.GraphClasses mudlark/mudlarklaw22.GraphCloses mudlark/mudlarklaw24.RenameMatches mudlark/mudlarklaw24.RenameBuilds mudlark/mudlarklaw26.AgeBooks" : String).toList, init_take]
  obtain ⟨a, b, hr⟩ := ws_some (("harness bcd4ed4800cb2f8d89dc493570e994075ec3191f238cf7dc3f0559e7d9759ffe cut at mudlark/mudlarklaw31.ReplayGoes mudlark/mudlarklaw31.ReplayPlaces mudlark/mudlarklaw11.TicketQueue mudlark/mudlarklaw18.SweepSweeps mudlark/mudlarklaw19.CollectorCycles mudlark/mudlarklaw22.GraphReaches mudlark/mudlarklaw22.GraphClasses mudlark/mudlarklaw22.GraphCloses mudlark/mudlarklaw24.RenameMatches mudlark/mudlarklaw24.RenameBuilds mudlark/mudlarklaw26.AgeBooks" : String).toList.drop 80)
  obtain ⟨us, u, h1, h2⟩ := ws_app _ a b hr "harness bcd4ed4800cb2f8d89dc493570e994075ec3191f238cf7dc3f0559e7d9759ffe cut at ".toList
  have h3 : wordsSigns "harness bcd4ed4800cb2f8d89dc493570e994075ec3191f238cf7dc3f0559e7d9759ffe cut at ".toList = ["harness".toList, "bcd4ed4800cb2f8d89dc493570e994075ec3191f238cf7dc3f0559e7d9759ffe".toList, "cut".toList, "at".toList] ++ [[]] := by kernel_rfl
  rw [h3] at h1
  obtain ⟨rfl, h4⟩ := List.append_inj_left' h1.symm rfl |> fun e => (⟨e, List.append_inj_right' h1.symm rfl⟩ : us = _ ∧ [u] = _)
  obtain rfl : u = [] := by simpa using h4
  exact ⟨a, b, h2⟩
theorem behind_is (a : List Char) (b : List (List Char)) : behindMainWord ("harness".toList :: "bcd4ed4800cb2f8d89dc493570e994075ec3191f238cf7dc3f0559e7d9759ffe".toList :: "cut".toList :: "at".toList :: a :: b) = "cut".toList :: "at".toList :: a :: b := by kernel_rfl
theorem cut_gc : ("cut".toList == "gc".toList) = false := by kernel_rfl
theorem cut_spec : ("cut".toList == "spec".toList) = false := by kernel_rfl
theorem cut_carried : ("cut".toList == "carried".toList) = false := by kernel_rfl
theorem cut_cut : ("cut".toList == "cut".toList) = true := by kernel_rfl
theorem lift_words (ws : List (List Char)) : stripLifts liftWords ("cut".toList :: ws) = ([], "cut".toList :: ws) := by kernel_rfl
theorem make_of (P : Program) (x : List (List Char)) (h : behindMainWord (wordsSigns P.initOrder.toList) = "cut".toList :: x) : P.make = some .cut := by
  unfold Program.make
  rw [h]
  simp only [cut_gc, cut_spec, cut_cut, Bool.or_self, Bool.false_eq_true, if_false, Bool.true_or, if_true]
theorem enter_of (P : Program) (x : List (List Char)) (h : behindMainWord (wordsSigns P.initOrder.toList) = "cut".toList :: x) (h1 : P.laysLater = false) (h2 : P.bearsReflect = false) (h3 : P.doorFits [] = true) : P.mayEnter = true := by
  unfold Program.mayEnter
  rw [h]
  simp only [lift_words, List.head?_cons, h1, h2, h3]
  simp [cut_cut]
theorem lifts_of (P : Program) (x : List (List Char)) (h : behindMainWord (wordsSigns P.initOrder.toList) = "cut".toList :: x) : P.liftsFinal = false := by
  unfold Program.liftsFinal Program.headLifts
  rw [h]
  simp only [lift_words, List.head?_cons]
  have : (some "cut".toList == some "carried".toList) = false := by kernel_rfl
  simp [this]
theorem cut_is : ∃ x, behindMainWord (wordsSigns Try.prog.initOrder.toList) = "cut".toList :: x := by
  obtain ⟨a, b, h⟩ := init_words
  exact ⟨_, (congrArg behindMainWord h).trans (behind_is a b)⟩
theorem make_is : Try.prog.make = some .cut := by obtain ⟨x, h⟩ := cut_is; exact make_of _ x h
theorem lays_is : Try.prog.laysLater = false := by kernel_rfl
theorem reflect_is : Try.prog.bearsReflect = false := by kernel_rfl
theorem door_is : Try.prog.doorFits [] = true := by kernel_rfl
theorem enter_is : Try.prog.mayEnter = true := by obtain ⟨x, h⟩ := cut_is; exact enter_of _ x h lays_is reflect_is door_is
theorem lifts_is : Try.prog.liftsFinal = false := by obtain ⟨x, h⟩ := cut_is; exact lifts_of _ x h

def joinedRest (P : Program) (f : FuncId) (fn : Func) (s : ChangeSpec) (c : OpenClaim) : Bool :=
  c.wf (OpenSpec.ofChange s) && laidOutB P && mapsRowed P &&
  fn.params.all (P.readableRec ·) && namedTie P c.named s.vars &&
  (c.stops == []) && (P.stops == []) && (c.knobs == []) && (P.stopKnobs == []) &&
  (c.inPlace == P.inPlace f) && (c.unfollowed == P.unfollowed f) && (c.recurses == P.recurses f) && (c.named == P.varsNamed f) &&
  (c.maps == (fn.params.toList ++ s.plain.varTypes P).any (P.mapsRec ·)) && (c.ifaces == (fn.params.toList ++ s.plain.varTypes P).any (P.ifacesRec ·)) && (c.mapsOut == P.mapsAmong fn.resultTypes.toList) &&
  (c.loops == (fn.params.toList ++ s.plain.varTypes P).any (P.loopsFrom ·)) && (c.wideKeys == (fn.params.toList ++ s.plain.varTypes P ++ fn.resultTypes.toList).any (P.wideKeysFrom ·)) &&
  s.vars.all (P.varReadable ·) && fn.resultTypes.all (fun t => P.readableRec t && decide (t < P.types.size)) && (c.ifacesOut == fn.resultTypes.toList.any (P.ifacesRec ·)) && (c.loopsOut == fn.resultTypes.toList.any (P.loopsFrom ·)) && (c.plainKeys == P.plainKeys) && c.shortTexts.isNone && P.stopsHeard && true && (c.lifted == false) && (some Make.cut == some c.make) && (c.kinds == (if c.domain.isEmpty then [] else fn.params.toList.map fun t => match P.underlying t with | some (.int k) => some k | _ => none)) && (c.pinned == c.pinnedBy) &&
  (c.veiled == (fn.params.toList ++ s.plain.varTypes P ++ fn.resultTypes.toList).any (P.veiledRec ·)) && c.veiledFits P fn.params.toList (fn.params.toList ++ s.plain.varTypes P ++ fn.resultTypes.toList)
set_option maxRecDepth 100000 in
theorem joined_of {f : FuncId} {fn : Func} {s : ChangeSpec} {c : OpenClaim} (h : joinedRest Try.prog f fn s c = true) : joinedFacts Try.prog f fn s c = true := by
  unfold joinedFacts
  rw [make_is, enter_is, lifts_is]
  exact h

end Go.Proofs.Ytnhnbgkhbhgifaa

namespace Go.Proofs.Ytnhnbgkhbhgifaa
open Go.ChangeShapes Go.WideShapes Go.ChangeAt Go.RowKit

theorem okAll_cfg {H : Type} {enc : TypeId × Value → H} {P : Program} {w : World} {b0 n : Nat} {t : TypeId} {fs : Array Field} {v : Value} {d : DataW H} {ps : List MemPlace} {ts : Array TypeId} {args : Array Value} (hv : OkAll P w b0 ts args) (j : Nat) (e1 : ts[j]? = some t) (e2 : args[j]? = some v)
    (hs : P.underlying t = some (.struct fs)) (hk : flatK P n t = some [.i64, .i64, .i64, .i64]) (h : DataW.Trod enc P w 0 (fun _ => true) true t v d ps) : ∃ c : Cfg, v = c.val := by
  obtain ⟨ns, rfl, hl, _⟩ := okAll_agg hv j e1 e2 hs hk h
  match ns, hl with
  | [a, b, c, d], _ => exact ⟨⟨a, b, c, d⟩, rfl⟩

end Go.Proofs.Ytnhnbgkhbhgifaa

namespace Go.Proofs.Ytnhnbgkhbhgifaa
open Go.ChangeShapes Go.WideShapes Go.ChangeAt Go.RowKit

theorem sweepSweeps_own : ownKnob Try.prog.godebug = none := by kernel_rfl
theorem sweepSweeps_laid : laidOutB Try.prog = true := by kernel_rfl

set_option maxRecDepth 100000 in
set_option maxHeartbeats 400000 in
theorem sweepSweeps_lifted (os : Os) (started : os.Started) (H : Type) (enc : TypeId × Value → H) :
    ReturnsInHanded {} Try.checked os 6 .any (Rows.sweepSweepsSpec.pre6 enc Try.prog Try.f6 Rows.sweepSweepsRow.domain false) (Rows.sweepSweepsSpec.post enc Try.prog Try.f6 false true false false) := by
  refine returnsInHanded_of_change_sized (C := Try.checked) sweepSweeps_own started (by kernel_rfl) Try.func6
    (ChangeSpec.witness6 (enc := enc) (C := Try.checked) false ⟨#[], #[.agg #[.int .i64 0, .int .i64 0, .int .i64 0, .int .i64 0], .slice none 0 0], []⟩ 8 (by kernel_rfl) (by kernel_rfl) (by kernel_rfl) (by kernel_rfl)) ?_
  intro W base args ds gs before hval0 hW _ hsz0 _
  have hsz : (DataW.weightsEach Try.prog (Try.f6.params.toList ++ Rows.sweepSweepsSpec.plain.varTypes Try.prog) (ds ++ gs)).all (· ≤ reachBytes) = true := hsz0
  clear hsz0
  have hval : OkAll Try.prog W base Try.f6.params args := hval0
  have hW' := hW
  obtain ⟨p, q, hA0, hV, rfl, _, _⟩ := hW
  have hA : DataW.TrodAll enc Try.prog W 0 (fun _ => true) true Try.f6.params.toList args.toList ds p := hA0
  rw [Try.params6] at hA hval hsz
  obtain ⟨v0, vs0, d0, ds0, p0, q0, hargs, rfl, rfl, h0, r0⟩ := trodAll_cons hA
  obtain ⟨v1, vs1, d1, ds1, p1, q1, rfl, rfl, rfl, h1, r1⟩ := trodAll_cons r0
  obtain ⟨rfl, rfl, rfl⟩ := trodAll_nil r1
  obtain rfl : args = #[v0, v1] := by cases args; simp_all
  obtain ⟨rfl, rfl⟩ := trodVars_none hV
  have k0 := h0
  have lt0 : ∀ x ∈ p0, x.block < W.heap.size := by obtain ⟨m, hm⟩ := k0; exact DataW.trod_lt m _ _ _ hm
  obtain ⟨c, rfl⟩ := okAll_cfg (n := 4) hval 0 rfl rfl Try.underlying45 (by kernel_rfl) h0
  have k1 := h1
  have lt1 : ∀ x ∈ p1, x.block < W.heap.size := by obtain ⟨m, hm⟩ := k1; exact DataW.trod_lt m _ _ _ hm
  obtain ⟨l, rd_l, wf_l, dat_l⟩ := flat_words (n := 4) Try.underlying22 (by kernel_rfl) (by kernel_rfl) (okAll_slice hval 1 rfl rfl Try.underlying22) h1
  have ln_l : l.length * 8 ≤ 140737488351232 := by
    rcases dat_l with h | ⟨el, sp, rfl, h⟩
    · rw [h.2]; decide
    · have := sized_slice hsz (j := 1) (t := 22) (e := 36) rfl rfl Try.underlying22
      rw [show Try.prog.bytesOf 36 = 8 by kernel_rfl] at this
      simp only [reachBytes] at this
      omega
  clear hA0 hval0
  refine (sweepSweeps_any c v1 l (trod_cap Try.underlying22 (okAll_slice hval 1 rfl rfl Try.underlying22) h1) W rd_l (by omega) wf_l).mono fun e W' ⟨he, hFr⟩ => ?_
  subst he
  have bel := hFr.below (B := W.heap.size) (Nat.le_refl _) (by simp)
  exact ⟨_, rfl, _, _, _, [], _, [], hW', trodAll_mk1 (shut_bool Try.underlying4 _), (trodAll_cons_mk (Below.trod sweepSweeps_laid (by kernel_rfl) (of_decide_eq_true (by kernel_rfl)) k0 bel lt0) (trodAll_cons_mk (Below.trod sweepSweeps_laid (by kernel_rfl) (of_decide_eq_true (by kernel_rfl)) k1 bel lt1) trodAll_mk0)), rfl, bel.frame _, fun h => by cases h⟩

theorem sweepSweeps_proved : Rows.SweepSweepsSaid :=
  OpenClaim.holds_of_wide 6 Try.f6 rfl rfl rfl rfl rfl rfl rfl ⟨rfl, rfl, rfl, rfl, rfl⟩ rfl rfl rfl rfl rfl (by kernel_rfl) Try.func6 (joined_of (by kernel_rfl))
    (of_decide_eq_true (by kernel_rfl)) (by unfold Func.isWrapper; first | (rw [if_pos (by decide +kernel)]; kernel_rfl) | (rw [if_neg (by decide +kernel)]; exact ⟨rfl, rfl⟩))
    (fun os started H enc _ => sweepSweeps_lifted os started H enc)

end Go.Proofs.Ytnhnbgkhbhgifaa
