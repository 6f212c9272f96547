/- mudlarkref27: Rounds, all. -/
import Derived.Test.YtciojmdppfgelaaRoundsSumWalk
namespace Go.Proofs.Ytciojmdppfgelaa
open Go.RowKit
set_option linter.unusedVariables false
set_option linter.unusedSimpArgs false

def allIn (procs : Int) (l : List Int) : Prop := ∀ p, 0 ≤ p → p < procs → p ∈ l
instance (procs : Int) (l : List Int) : Decidable (allIn procs l) :=
  decidable_of_iff (∀ k : Nat, k < procs.toNat → (k : Int) ∈ l) ⟨fun h p h0 h1 => by have := h p.toNat (by omega); rwa [Int.toNat_of_nonneg h0] at this, fun h k hk => h k (by omega) (by omega)⟩

theorem all27_any {w : World} {v : Value} {l : List Int} (hv : RdS w v l.length (i64s l)) (procs : Int) (hp : procs ≤ 1000) (hl : l.length ≤ 1000) :
    Calls Try.prog 71 #[.int .i64 procs, v] w fun e w' => e = .returned (.bool (decide (allIn procs l))) ∧ w = w' := by
  obtain ⟨ua, ca, rfl, hu⟩ := hv.elim
  have HU := hid hu
  obtain ⟨d, hd⟩ : ∃ d, d = decide (allIn procs l) := ⟨_, rfl⟩
  rw [← hd]
  have HD := hid hd
  clear hu hd hv
  go_enter Try.func71, Try.ntmps71
  go_wp2_with fail
  go_loopw [5] (fun i wr => ∃ p : Nat, i = .int .i64 p ∧ (p = 0 ∨ (p : Int) ≤ procs) ∧ (∀ q : Int, 0 ≤ q → q < p → q ∈ l) ∧ wr = w) (fun i _ => procs.toNat - (intOf i).toNat)
  case atStart => exact ⟨0, rfl, .inl rfl, by intro q h0 h1; omega, rfl⟩
  case round =>
    obtain ⟨p, rfl, hpp, hin, rfl⟩ := hrel
    by_cases hlt : (p : Int) < procs
    · have HIN := hid hin
      clear hin
      go_wp2_with fail
      go_loopw [7, 6] (fun i t wr2 => ∃ k : Nat, k ≤ l.length ∧ i = .int .i64 k ∧ t = .bool (decide ((p : Int) ∈ l.take k)) ∧ wr2 = wr) (fun i _ _ => l.length - (intOf i).toNat)
      case atStart => exact ⟨0, by omega, rfl, by simp, rfl⟩
      case round =>
        obtain ⟨k, hk, rfl, rfl, rfl⟩ := hrel
        by_cases hkl : k < l.length
        · obtain ⟨b, o, rfl, hb, hc⟩ := HU.out (by omega)
          have hz := (hc k (by simpa using hkl)).trans (i64s_get l k hkl)
          have hst : decide ((p : Int) ∈ l.take (k + 1)) = (decide ((p : Int) ∈ l.take k) || (l.getD k 0 == (p : Int))) := by
            rw [List.take_succ_eq_append_getElem hkl, List.getD_eq_getElem?_getD, List.getElem?_eq_getElem hkl]
            simp only [Option.getD_some]
            generalize l.take k = T
            generalize l[k] = y
            by_cases e : y = (p : Int)
            · simp [e]
            · have : (y == (p : Int)) = false := by simpa using e
              rw [this]
              simp [Ne.symm e]
          obtain ⟨x, hx⟩ : ∃ x, x = l.getD k 0 := ⟨_, rfl⟩
          rw [← hx] at hz hst
          have HST := hid hst
          clear hst hx hc
          obtain ⟨bo, hbo⟩ : ∃ b, b = decide ((p : Int) ∈ l.take k) := ⟨_, rfl⟩
          rw [← hbo] at HST ⊢
          clear hbo
          cases bo
          · go_wp2
            go_roundw
            case rel => exact ⟨k + 1, by omega, by go_num, by rw [HST.out]; simp, trivial⟩
            case measure => simp [intOf]; omega
          · go_wp2
            go_roundw
            case rel => exact ⟨k + 1, by omega, by go_num, by rw [HST.out]; simp, trivial⟩
            case measure => simp [intOf]; omega
        · obtain rfl : k = l.length := by omega
          rw [List.take_length]
          by_cases hm : (p : Int) ∈ l
          · have e : decide ((p : Int) ∈ l) = true := by simpa using hm
            rw [e]
            have HM := hid hm
            clear e hm
            go_wp2
            go_roundw
            case rel =>
              refine ⟨p + 1, by go_num, .inr (by omega), ?_, trivial⟩
              intro q h0 h1
              by_cases e : q = p
              · rw [e]; exact HM.out
              · exact HIN.out q h0 (by omega)
            case measure => simp [intOf]; omega
          · have e : decide ((p : Int) ∈ l) = false := by simpa using hm
            rw [e]
            have HM := hid hm
            clear e hm
            go_wp2
            go_ret
            refine ⟨?_, rfl⟩
            rw [HD.out]
            have : ¬ allIn procs l := fun h => HM.out (h p (by omega) hlt)
            simp [this]
    · have HIN := hid hin
      clear hin
      go_wp2
      go_ret
      refine ⟨?_, rfl⟩
      rw [HD.out]
      have : allIn procs l := fun q h0 h1 => HIN.out q h0 (by omega)
      simp [this]

/-- The document's rounds: how many so far, and the picks since. -/
def r27 (procs : Int) (s : Int × List Int) (p : Int) : Int × List Int := if allIn procs (s.2 ++ [p]) then (s.1 + 1, []) else (s.1, s.2 ++ [p])
def R27 (procs : Int) (l : List Int) : Int := if procs < 1 then 0 else (l.foldl (r27 procs) (0, [])).1

theorem r27_succ (procs : Int) (l : List Int) (k : Nat) (h : k < l.length) : (l.take (k + 1)).foldl (r27 procs) (0, []) = r27 procs ((l.take k).foldl (r27 procs) (0, [])) (l.getD k 0) := by
  rw [List.take_succ_eq_append_getElem h, List.foldl_append]
  simp [List.getD_eq_getElem?_getD, List.getElem?_eq_getElem h]

/-- What the reference keeps: 'from' is where the picks since begin. -/
theorem r27_from (procs : Int) (l : List Int) (k : Nat) : ∃ f : Nat, f ≤ k ∧ ((l.take k).foldl (r27 procs) (0, [])).2 = (l.take k).drop f ∧ 0 ≤ ((l.take k).foldl (r27 procs) (0, [])).1 ∧ ((l.take k).foldl (r27 procs) (0, [])).1 ≤ k := by
  induction k with
  | zero => exact ⟨0, by omega, by simp, by simp, by simp⟩
  | succ k ih =>
    obtain ⟨f, h1, h2, h3, h4⟩ := ih
    by_cases hk : k < l.length
    · rw [r27_succ procs l k hk]
      have e : (l.take (k + 1)).drop f = (l.take k).drop f ++ [l.getD k 0] := by
        rw [List.take_succ_eq_append_getElem hk, List.drop_append_of_le_length (by simp; omega)]
        simp [List.getD_eq_getElem?_getD, List.getElem?_eq_getElem hk]
      generalize (l.take k).foldl (r27 procs) (0, []) = s at h2 h3 h4 ⊢
      unfold r27
      split
      · refine ⟨k + 1, by omega, ?_, by simp only; omega, by simp only; omega⟩
        simp only
        rw [List.drop_of_length_le (by rw [List.length_take]; omega)]
      · exact ⟨f, by omega, by rw [e, h2], by simp only; omega, by simp only; omega⟩
    · have e : l.take (k + 1) = l.take k := by rw [List.take_of_length_le (by omega), List.take_of_length_le (by omega)]
      rw [e]
      exact ⟨f, by omega, h2, h3, by omega⟩

theorem allIn_nil (procs : Int) (h : 1 ≤ procs) : ¬ allIn procs [] := fun h2 => by have := h2 0 (by omega) (by omega); simp at this

/-- The clock and the reference. -/
structure Same27 (procs : Int) (c : Clk) (s : Int × List Int) : Prop where
  pr : c.procs = procs
  n : c.n = s.1
  nd : c.named.Nodup
  bd : ∀ p, p ∈ c.named → 0 ≤ p ∧ p < procs
  mem : ∀ p, 0 ≤ p → p < procs → (p ∈ c.named ↔ p ∈ s.2)
  no : ¬ allIn procs s.2

theorem full27 {procs : Int} {l : List Int} (hp : 1 ≤ procs) (hn : l.Nodup) (hb : ∀ p, p ∈ l → 0 ≤ p ∧ p < procs) : (l.length : Int) < procs ↔ ¬ allIn procs l := by
  have hR : ((List.range procs.toNat).map Int.ofNat).Nodup := by
    have : ∀ l : List Nat, l.Nodup → (l.map Int.ofNat).Nodup := by
      intro l
      induction l with
      | nil => intro _; simp
      | cons a l ih =>
        intro h
        obtain ⟨g1, g2⟩ := List.nodup_cons.1 h
        rw [List.map_cons, List.nodup_cons]
        refine ⟨?_, ih g2⟩
        intro hm
        obtain ⟨b, hb, e⟩ := List.mem_map.1 hm
        exact g1 (Int.ofNat.inj e ▸ hb)
    exact this _ List.nodup_range
  have hL : ((List.range procs.toNat).map Int.ofNat).length = procs.toNat := by simp
  have hM : ∀ x, x ∈ (List.range procs.toNat).map Int.ofNat ↔ 0 ≤ x ∧ x < procs := by
    intro x
    simp only [List.mem_map, List.mem_range]
    constructor
    · rintro ⟨a, ha, rfl⟩
      exact ⟨Int.natCast_nonneg a, by have : (Int.ofNat a) = (a : Int) := rfl; omega⟩
    · rintro ⟨h0, h1⟩
      exact ⟨x.toNat, by omega, by have : Int.ofNat x.toNat = (x.toNat : Int) := rfl; omega⟩
  constructor
  · intro h ha
    have := nodup_length hR (fun x hx => ha x ((hM x).1 hx).1 ((hM x).1 hx).2 : ∀ x, x ∈ _ → x ∈ l)
    rw [hL] at this
    omega
  · intro h
    have : ∃ q, 0 ≤ q ∧ q < procs ∧ q ∉ l := by
      apply Classical.byContradiction
      intro hh
      apply h
      intro q h0 h1
      apply Classical.byContradiction
      intro hq
      exact hh ⟨q, h0, h1, hq⟩
    obtain ⟨q, h0, h1, hq⟩ := this
    have := nodup_length (l := q :: l) (List.nodup_cons.2 ⟨hq, hn⟩) (r := (List.range procs.toNat).map Int.ofNat) (by
      intro x hx
      rcases List.mem_cons.1 hx with rfl | hx
      · exact (hM _).2 ⟨h0, h1⟩
      · exact (hM x).2 (hb x hx))
    rw [hL, List.length_cons] at this
    omega

theorem Same27.tick {procs : Int} {c : Clk} {s : Int × List Int} (h : Same27 procs c s) (hp : 1 ≤ procs) (p : Int) : Same27 procs (c.tick p) (r27 procs s p) := by
  obtain ⟨h1, h2, h3, h4, h5, h6⟩ := h
  unfold Clk.tick r27
  by_cases ho : p < 0 ∨ c.procs ≤ p
  · rw [if_pos ho]
    rw [h1] at ho
    have hno : ¬ allIn procs (s.2 ++ [p]) := fun ha => h6 (fun q g0 g1 => by
      have := ha q g0 g1
      rcases List.mem_append.1 this with h | h
      · exact h
      · simp at h; omega)
    rw [if_neg hno]
    refine ⟨h1, h2, h3, h4, ?_, hno⟩
    intro q g0 g1
    rw [h5 q g0 g1]
    simp only [List.mem_append, List.mem_singleton]
    constructor
    · exact .inl
    · rintro (h | h)
      · exact h
      · omega
  · rw [if_neg ho]
    rw [h1] at ho
    have hb : ∀ x, x ∈ kput c.named p → 0 ≤ x ∧ x < procs := by
      intro x hx
      rcases mem_kput.1 hx with h | h
      · exact h4 x h
      · subst h; omega
    have hm : ∀ q, 0 ≤ q → q < procs → (q ∈ kput c.named p ↔ q ∈ s.2 ++ [p]) := by
      intro q g0 g1
      rw [mem_kput, h5 q g0 g1]
      simp
    have hf := full27 hp (nodup_kput h3 p) hb
    have ha : allIn procs (kput c.named p) ↔ allIn procs (s.2 ++ [p]) :=
      ⟨fun h q g0 g1 => (hm q g0 g1).1 (h q g0 g1), fun h q g0 g1 => (hm q g0 g1).2 (h q g0 g1)⟩
    by_cases hl : ((kput c.named p).length : Int) < c.procs
    · rw [if_pos hl]
      rw [h1] at hl
      have := hf.1 hl
      rw [ha] at this
      rw [if_neg this]
      exact ⟨h1, h2, nodup_kput h3 p, hb, hm, this⟩
    · rw [if_neg hl]
      rw [h1] at hl
      have : allIn procs (s.2 ++ [p]) := by
        rw [← ha]
        apply Classical.byContradiction
        intro hh
        exact hl (hf.2 hh)
      rw [if_pos this]
      exact ⟨h1, by simp only; omega, List.nodup_nil, by simp, by simp, allIn_nil procs hp⟩

theorem Same27.ticks {procs : Int} (hp : 1 ≤ procs) (l : List Int) : ∀ {c : Clk} {s : Int × List Int}, Same27 procs c s → Same27 procs (c.ticks l) (l.foldl (r27 procs) s) := by
  induction l with
  | nil => exact fun h => h
  | cons p l ih => exact fun h => ih (h.tick hp p)

theorem Clk.none_tick (c : Clk) (h : c.procs ≤ 0) (p : Int) : c.tick p = c := by
  unfold Clk.tick
  rw [if_pos (by omega)]
theorem Clk.none_ticks (l : List Int) : ∀ (c : Clk), c.procs ≤ 0 → c.ticks l = c := by
  induction l with
  | nil => exact fun c h => rfl
  | cons p l ih => exact fun c h => by show Clk.ticks (c.tick p) l = c; rw [c.none_tick h p]; exact ih c h

/-- The clock counts as the document does. -/
theorem clock27 (n : Int) (l : List Int) : ((Clk.new n).ticks l).n = R27 (min n 200) l := by
  unfold R27
  by_cases h : min n 200 < 1
  · rw [if_pos h, Clk.none_ticks l _ (by simp only [Clk.new]; omega)]
    rfl
  · rw [if_neg h]
    have e : max 0 (min n 200) = min n 200 := by omega
    have h0 : Same27 (min n 200) (Clk.new n) (0, []) := ⟨by simp only [Clk.new]; omega, rfl, List.nodup_nil, by simp [Clk.new], by simp [Clk.new], allIn_nil _ (by omega)⟩
    exact (Same27.ticks (by omega) l h0).n
theorem Clk.over_n (c : Clk) (p : Int) : c.over p = decide (c.n < (c.tick p).n) := by
  unfold Clk.over Clk.tick
  split
  · simp
  · split
    · simp
    · have : c.n < c.n + 1 := by omega
      simp only [this, decide_true]

end Go.Proofs.Ytciojmdppfgelaa
