/- Maps with int keys whose entries are known as a list: what a store, a look-up, len, clear, delete do. No program is named here. -/
import Derived.Test.YtolkgdchinaonaaBase
namespace Go.Proofs.Ytolkgdchinaonaa
open Go.RowKit
set_option linter.unusedVariables false
set_option linter.unusedSimpArgs false

def entry (p : Int × Value) : Value × Value := (.int .i64 p.1, p.2)
/-- Block r is a map of these entries, in the order in which they came. -/
def MapAt (w : World) (r : Nat) (es : List (Int × Value)) : Prop := ∃ arr clk, w.heap[r]? = some (.map arr clk) ∧ arr.toList.map (fun e => (e.key, e.val)) = es.map entry

namespace MapAt
variable {w w' : World} {r : Nat} {es : List (Int × Value)}
theorem lt (h : MapAt w r es) : r < w.heap.size := by obtain ⟨arr, clk, h1, _⟩ := h; exact lt_of_block h1
theorem kept {S : List Nat} (h : MapAt w r es) (f : Fr S w w') (hr : r ∉ S) : MapAt w' r es := by
  have := h.lt
  obtain ⟨arr, clk, h1, h2⟩ := h
  exact ⟨arr, clk, (f.block r this hr).trans h1, h2⟩
theorem alloc (h : MapAt w r es) (o : Obj) : MapAt (w.alloc o) r es := h.kept (S := []) ((Fr.refl _ _).alloc o) (by simp)
theorem drew (h : MapAt w r es) : MapAt w.drew r es := h
theorem other (h : MapAt w r es) {p : Addr} (hp : r ≠ p.block) (u : Value) : MapAt (w.setCell p u) r es := h.kept (S := [p.block]) ((Fr.refl _ _).setCell (by simp) _) (by simpa using hp)
theorem made (w : World) : MapAt (w.alloc (.map #[] 0)) w.heap.size [] := ⟨#[], 0, by show (w.heap.push _)[w.heap.size]? = _; simp, by simp⟩
theorem made' (w : World) (n : Nat) (hn : n = w.heap.size) : MapAt (w.alloc (.map #[] 0)) n [] := by subst hn; exact made w
theorem noCell (h : MapAt w r es) (i : Nat) : w.cell? ⟨r, i, none⟩ = none := by obtain ⟨arr, clk, h1, _⟩ := h; simp [World.cell?, h1]
end MapAt

theorem key_none {es : List (Int × Value)} {k : Int} (h : ∀ p, p ∈ es → p.1 ≠ k) (arr : List MapEntry) (ha : arr.map (fun e => (e.key, e.val)) = es.map entry) : ∀ i, Instr.findNow (.int .i64) (.int .i64 k) arr i = some none := by
  induction arr generalizing es with
  | nil => intro i; rfl
  | cons e arr ih =>
    cases es with
    | nil => simp at ha
    | cons p es =>
      simp only [List.map_cons, List.cons.injEq, entry, Prod.mk.injEq] at ha
      intro i
      obtain ⟨⟨h1, h2⟩, h3⟩ := ha
      have hne : (k == p.1) = false := by rw [beq_eq_false_iff_ne]; exact fun e => h p (by simp) e.symm
      have : Instr.sameNow (.int .i64) (.int .i64 k) e.key = some false := by rw [h1]; simp [Instr.sameNow, hne]
      unfold Instr.findNow
      rw [this]
      exact ih (fun q hq => h q (by simp [hq])) h3 _

/-- Where the key is first. -/
theorem key_some {es es' : List (Int × Value)} {k : Int} {v : Value} (h : ∀ p, p ∈ es → p.1 ≠ k) (arr : List MapEntry) (ha : arr.map (fun e => (e.key, e.val)) = (es ++ (k, v) :: es').map entry) : ∀ i, Instr.findNow (.int .i64) (.int .i64 k) arr i = some (some (i + es.length, v)) := by
  induction es generalizing arr with
  | nil =>
    intro i
    cases arr with
    | nil => simp at ha
    | cons e arr =>
      simp only [List.nil_append, List.map_cons, List.cons.injEq, entry, Prod.mk.injEq] at ha
      obtain ⟨⟨h1, h2⟩, h3⟩ := ha
      have : Instr.sameNow (.int .i64) (.int .i64 k) e.key = some true := by rw [h1]; simp [Instr.sameNow]
      unfold Instr.findNow
      rw [this]
      simp [h2]
  | cons p es ih =>
    intro i
    cases arr with
    | nil => simp at ha
    | cons e arr =>
      simp only [List.cons_append, List.map_cons, List.cons.injEq, entry, Prod.mk.injEq] at ha
      obtain ⟨⟨h1, h2⟩, h3⟩ := ha
      have hne : (k == p.1) = false := by rw [beq_eq_false_iff_ne]; exact fun e => h p (by simp) e.symm
      have : Instr.sameNow (.int .i64) (.int .i64 k) e.key = some false := by rw [h1]; simp [Instr.sameNow, hne]
      unfold Instr.findNow
      rw [this]
      have := ih (fun q hq => h q (by simp [hq])) arr h3 (i + 1)
      simp only [this, List.length_cons]
      congr 2
      simp; omega

def mget : List (Int × Value) → Int → Option Value
  | [], _ => none
  | p :: es, k => if p.1 = k then some p.2 else mget es k
def mput : List (Int × Value) → Int → Value → List (Int × Value)
  | [], k, v => [(k, v)]
  | p :: es, k, v => if p.1 = k then (k, v) :: es else p :: mput es k v
def mdel : List (Int × Value) → Int → List (Int × Value)
  | [], _ => []
  | p :: es, k => if p.1 = k then es else p :: mdel es k

theorem mcases (es : List (Int × Value)) (k : Int) : ((∀ p, p ∈ es → p.1 ≠ k) ∧ mget es k = none ∧ (∀ v, mput es k v = es ++ [(k, v)]) ∧ mdel es k = es) ∨
    ∃ es1 v0 es2, es = es1 ++ (k, v0) :: es2 ∧ (∀ p, p ∈ es1 → p.1 ≠ k) ∧ mget es k = some v0 ∧ (∀ v, mput es k v = es1 ++ (k, v) :: es2) ∧ mdel es k = es1 ++ es2 := by
  induction es with
  | nil => left; simp [mget, mput, mdel]
  | cons p es ih =>
    by_cases hp : p.1 = k
    · right
      obtain ⟨a, b⟩ := p
      simp only at hp
      subst hp
      exact ⟨[], b, es, by simp, by simp, by simp [mget], by simp [mput], by simp [mdel]⟩
    · rcases ih with ⟨h1, h2, h3, h4⟩ | ⟨es1, v0, es2, h0, h1, h2, h3, h4⟩
      · left
        refine ⟨?_, by simp [mget, hp, h2], fun v => by simp [mput, hp, h3], by simp [mdel, hp, h4]⟩
        intro q hq
        rcases List.mem_cons.1 hq with rfl | hq
        · exact hp
        · exact h1 q hq
      · right
        refine ⟨p :: es1, v0, es2, by simp [h0], ?_, by simp [mget, hp, h2], fun v => by simp [mput, hp, h3], by simp [mdel, hp, h4]⟩
        intro q hq
        rcases List.mem_cons.1 hq with rfl | hq
        · exact hp
        · exact h1 q hq

theorem map_eraseIdx' {α β : Type} (f : α → β) : ∀ (l : List α) (i : Nat), (l.eraseIdx i).map f = (l.map f).eraseIdx i
  | [], _ => by simp
  | _ :: _, 0 => by simp
  | a :: l, i + 1 => by simp [map_eraseIdx' f l i]

theorem MapAt.put {w : World} {r : Nat} {arr : Array MapEntry} {clk : Nat} {es : List (Int × Value)} (hlt : r < w.heap.size) (ha : arr.toList.map (fun e => (e.key, e.val)) = es.map entry) :
    MapAt { w with heap := w.heap.setIfInBounds r (.map arr clk) } r es ∧ Fr [r] w { w with heap := w.heap.setIfInBounds r (.map arr clk) } := by
  refine ⟨⟨arr, clk, by simp [hlt], ha⟩, ⟨rfl, rfl, rfl, by simp, fun j hj hr => ?_⟩⟩
  have : r ≠ j := by simp at hr; omega
  simp [Array.getElem?_setIfInBounds, this]

section
variable {P : Program} {t kt et : TypeId} (ht : P.underlying t = some (.map kt et)) (hk : P.underlying kt = some (.int .i64)) {w : World} {r : Nat} {es : List (Int × Value)}
include ht hk

theorem run_put (h : MapAt w r es) (k : Int) (v : Value) :
    ∃ w', (Instr.mapUpdate t (.map (some r)) (.int .i64 k) v).run P w = .ok () w' ∧ MapAt w' r (mput es k v) ∧ Fr [r] w w' := by
  have hlt := h.lt
  obtain ⟨arr, clk, h1, h2⟩ := h
  have hc := MapKept.run_checkKey (w := w) (k := .int .i64 k) hk rfl false 9999
  rcases mcases es k with ⟨hn, _, hp, _⟩ | ⟨es1, v0, es2, he, hn, _, hp, _⟩
  · have hf := MapKept.run_findKey (w := w) hk (key_none hn arr.toList h2 0)
    refine ⟨{ w with heap := w.heap.setIfInBounds r (.map (arr.push { key := .int .i64 k, val := v, born := clk }) (clk + 1)) }, ?_, ?_⟩
    · simp [Instr.mapUpdate, run_underlying ht, MapKept.run_getObj_map h1, hc, hf, MapKept.run_setObj_map _ h1, Result.andThen]
    · rw [hp]; exact MapAt.put hlt (by simp [h2, entry])
  · rw [he] at h2
    have hf := MapKept.run_findKey (w := w) hk (key_some hn arr.toList h2 0)
    rw [Nat.zero_add] at hf
    have hl : es1.length < arr.toList.length := by have := congrArg List.length h2; simp at this; simp; omega
    have hj : arr[es1.length]? = some arr.toList[es1.length] := by rw [← Array.getElem?_toList, List.getElem?_eq_getElem hl]
    have hkey : (arr.toList[es1.length]).key = .int .i64 k := by
      have := congrArg (fun l => l[es1.length]?) h2
      simp only [List.getElem?_map, List.getElem?_eq_getElem hl] at this
      simp [entry] at this
      simpa using this.1
    have hst : (Instr.keyThatStays (.int .i64 k) (.int .i64 k)).run P w = .ok (.int .i64 k) w := by simp [Instr.keyThatStays, Instr.sameBits]
    refine ⟨{ w with heap := w.heap.setIfInBounds r (.map (arr.modify es1.length fun e => { e with key := .int .i64 k, val := v }) clk) }, ?_, ?_⟩
    · simp only [Instr.mapUpdate, Sem.run_bind, run_underlying ht, MapKept.run_getObj_map h1, hc, hf, hj, Option.map_some, Option.getD_some, hkey, hst, MapKept.run_setObj_map _ h1, Result.andThen]
    · rw [hp]
      refine MapAt.put hlt ?_
      apply List.ext_getElem?
      intro i
      have e1 := congrArg (fun l => l[i]?) h2
      simp only [List.getElem?_map] at e1 ⊢
      rw [Array.getElem?_toList, Array.getElem?_modify]
      by_cases hi : es1.length = i
      · subst hi
        rw [if_pos rfl, hj]
        simp [entry]
      · rw [if_neg hi, ← Array.getElem?_toList, e1]
        by_cases hlt2 : i < es1.length
        · rw [List.getElem?_append_left hlt2, List.getElem?_append_left hlt2]
        · rw [List.getElem?_append_right (by omega), List.getElem?_append_right (by omega)]
          obtain ⟨q, hq⟩ : ∃ q, i - es1.length = q + 1 := ⟨i - es1.length - 1, by omega⟩
          rw [hq]
          rfl

theorem run_look (h : MapAt w r es) (k : Int) (z : Value) (hz : (zeroValue et).run P w = .ok z w) :
    (Instr.lookup t (.map (some r)) (.int .i64 k) false).run P w = .ok ((mget es k).getD z) w := by
  obtain ⟨arr, clk, h1, h2⟩ := h
  have hc := fun b => MapKept.run_checkKey (w := w) (k := .int .i64 k) hk rfl b 9999
  rcases mcases es k with ⟨hn, hg, _, _⟩ | ⟨es1, v0, es2, he, hn, hg, _, _⟩
  · have hf := MapKept.run_findKey (w := w) hk (key_none hn arr.toList h2 0)
    rw [hg]
    simp [Instr.lookup, run_underlying ht, MapKept.run_getObj_map h1, hc, hf, hz, Result.andThen]
  · rw [he] at h2
    have hf := MapKept.run_findKey (w := w) hk (key_some hn arr.toList h2 0)
    rw [hg]
    simp [Instr.lookup, run_underlying ht, MapKept.run_getObj_map h1, hc, hf, Result.andThen]

theorem run_look_ok (h : MapAt w r es) (k : Int) (z : Value) (hz : (zeroValue et).run P w = .ok z w) :
    (Instr.lookup t (.map (some r)) (.int .i64 k) true).run P w = .ok (.tuple #[(mget es k).getD z, .bool (mget es k).isSome]) w := by
  obtain ⟨arr, clk, h1, h2⟩ := h
  have hc := fun b => MapKept.run_checkKey (w := w) (k := .int .i64 k) hk rfl b 9999
  rcases mcases es k with ⟨hn, hg, _, _⟩ | ⟨es1, v0, es2, he, hn, hg, _, _⟩
  · have hf := MapKept.run_findKey (w := w) hk (key_none hn arr.toList h2 0)
    rw [hg]
    simp [Instr.lookup, run_underlying ht, MapKept.run_getObj_map h1, hc, hf, hz, Result.andThen]
  · rw [he] at h2
    have hf := MapKept.run_findKey (w := w) hk (key_some hn arr.toList h2 0)
    rw [hg]
    simp [Instr.lookup, run_underlying ht, MapKept.run_getObj_map h1, hc, hf, Result.andThen]

omit hk in
theorem run_mlen (ty : TypeId) (h : MapAt w r es) : (Builtin.len_ #[t] ty #[.map (some r)]).run P w = .ok (.int .i64 (es.length : Int)) w := by
  obtain ⟨arr, clk, h1, h2⟩ := h
  have hl : arr.size = es.length := by have := congrArg List.length h2; simpa using this
  simp [Builtin.len_, run_underlying ht, MapKept.run_getObj_map h1, Result.andThen, hl, goInt]

omit hk in
theorem run_mclear (ty : TypeId) (h : MapAt w r es) : ∃ w', (Builtin.clear_ #[t] ty #[.map (some r)]).run P w = .ok (.tuple #[]) w' ∧ MapAt w' r [] ∧ Fr [r] w w' := by
  have hlt := h.lt
  obtain ⟨arr, clk, h1, h2⟩ := h
  refine ⟨{ w with heap := w.heap.setIfInBounds r (.map #[] clk) }, ?_, MapAt.put hlt (by simp)⟩
  simp [Builtin.clear_, run_underlying ht, MapKept.run_getObj_map h1, MapKept.run_setObj_map _ h1, Result.andThen]

theorem run_mdelete (ty : TypeId) (h : MapAt w r es) (k : Int) (ts : TypeId) : ∃ w', (Builtin.delete_ #[t, ts] ty #[.map (some r), .int .i64 k]).run P w = .ok (.tuple #[]) w' ∧ MapAt w' r (mdel es k) ∧ Fr [r] w w' := by
  have hlt := h.lt
  obtain ⟨arr, clk, h1, h2⟩ := h
  have hc := fun b => MapKept.run_checkKey (w := w) (k := .int .i64 k) hk rfl b 9999
  rcases mcases es k with ⟨hn, _, _, hd⟩ | ⟨es1, v0, es2, he, hn, _, _, hd⟩
  · have hf := MapKept.run_findKey (w := w) hk (key_none hn arr.toList h2 0)
    refine ⟨{ w with heap := w.heap.setIfInBounds r (.map arr clk) }, ?_, by rw [hd]; exact MapAt.put hlt h2⟩
    simp [Builtin.delete_, run_underlying ht, MapKept.run_getObj_map h1, hc, hf, MapKept.run_setObj_map _ h1, Result.andThen]
  · rw [he] at h2
    have hf := MapKept.run_findKey (w := w) hk (key_some hn arr.toList h2 0)
    rw [Nat.zero_add] at hf
    have hl : es1.length < arr.size := by have := congrArg List.length h2; simp at this; omega
    refine ⟨{ w with heap := w.heap.setIfInBounds r (.map (arr.eraseIdxIfInBounds es1.length) clk) }, ?_, ?_⟩
    · simp [Builtin.delete_, run_underlying ht, MapKept.run_getObj_map h1, hc, hf, MapKept.run_setObj_map _ h1, Result.andThen]
    · rw [hd]
      refine MapAt.put hlt ?_
      rw [Array.eraseIdxIfInBounds_eq, dif_pos hl, Array.toList_eraseIdx, map_eraseIdx', h2, ← map_eraseIdx']
      congr 1
      rw [List.eraseIdx_append_of_length_le (Nat.le_refl _), Nat.sub_self]
      rfl
end

end Go.Proofs.Ytolkgdchinaonaa
