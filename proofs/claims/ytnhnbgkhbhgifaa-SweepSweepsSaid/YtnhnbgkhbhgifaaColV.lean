/- A struct of numbers and a Boolean, as it was read; the collector's record. -/
import Derived.Test.YtnhnbgkhbhgifaaPlain
import Derived.Test.YtnhnbgkhbhgifaaFlat
import Derived.Test.YtnhnbgkhbhgifaaHand
namespace Go.Proofs.Ytnhnbgkhbhgifaa
open Go.ChangeShapes Go.WideShapes Go.ChangeAt Go.RowKit

inductive CK where
  | n (k : IntKind)
  | b
def CK.ok : CK → Value → Prop
  | .n k, v => ∃ m, v = .int k m ∧ (Lit.int k m).wf = true
  | .b, v => ∃ c, v = .bool c
def MixOf (ks : List CK) (cs : List Value) : Prop := cs.length = ks.length ∧ ∀ (i : Nat) (k : CK) (c : Value), ks[i]? = some k → cs[i]? = some c → k.ok c

theorem MixOf.append {ks js : List CK} {cs ds : List Value} (h : MixOf ks cs) (k : MixOf js ds) : MixOf (ks ++ js) (cs ++ ds) := by
  obtain ⟨h1, h3⟩ := h
  obtain ⟨k1, k3⟩ := k
  refine ⟨by simp [h1, k1], ?_⟩
  intro i kk m e1 e2
  by_cases hi : i < ks.length
  · rw [List.getElem?_append_left hi] at e1
    rw [List.getElem?_append_left (by omega)] at e2
    exact h3 i kk m e1 e2
  · rw [List.getElem?_append_right (by omega)] at e1 e2
    rw [h1] at e2
    exact k3 _ kk m e1 e2

def mixF (P : Program) (rec : TypeId → Option (List CK)) : Nat → List Field → Option (List CK)
  | _, [] => some []
  | off, f :: fs =>
    if f.offset = off then
      match rec f.type with
      | some ks => if P.cellsOf f.type = ks.length then (mixF P rec (off + ks.length) fs).map (ks ++ ·) else none
      | none => none
    else none
def mixK (P : Program) : Nat → TypeId → Option (List CK)
  | 0, _ => none
  | n + 1, t =>
    match P.underlying t with
    | some (.int k) => some [.n k]
    | some .bool => some [.b]
    | some (.struct fs) =>
      match mixF P (mixK P n) 0 fs.toList with
      | some ks => if P.cellsOf t = ks.length then some ks else none
      | none => none
    | _ => none

section
variable {H : Type} {enc : TypeId × Value → H} {P : Program} {w : World} {base : Nat} {spare : Nat → Bool} {held : Bool}

theorem mixF_trod {rec : TypeId → Option (List CK)} (hr : ∀ t ks, rec t = some ks → ∀ fuel cs x, DataW.trod enc P w base spare held fuel t cs = some x → MixOf ks cs) (cs : List Value) :
    ∀ (fs : List Field) (off : Nat) (ks : List CK), mixF P rec off fs = some ks →
      (∀ f, f ∈ fs → ∃ m y, DataW.trod enc P w base spare held m f.type ((cs.drop f.offset).take (P.cellsOf f.type)) = some y) →
      MixOf ks ((cs.drop off).take ks.length) := by
  intro fs
  induction fs with
  | nil =>
    intro off ks h _
    simp only [mixF, Option.some.injEq] at h
    subst h
    exact ⟨by simp, by simp⟩
  | cons f fs ih =>
    intro off ks h hy
    simp only [mixF] at h
    split at h
    · rename_i ho
      split at h
      · rename_i k0 hk
        split at h
        · rename_i hc
          simp only [Option.map_eq_some_iff] at h
          obtain ⟨k1, h1, rfl⟩ := h
          have g1 := ih _ _ h1 (fun f hf => hy f (List.mem_cons_of_mem _ hf))
          obtain ⟨m, y, hm⟩ := hy f List.mem_cons_self
          have g0 := hr _ _ hk _ _ _ hm
          rw [ho, hc] at g0
          rw [List.length_append, List.take_add, List.drop_drop]
          exact g0.append g1
        · cases h
      · cases h
    · cases h

theorem mix_trod : ∀ (n : Nat) (t : TypeId) (ks : List CK), mixK P n t = some ks → ∀ fuel cs x, DataW.trod enc P w base spare held fuel t cs = some x → MixOf ks cs := by
  intro n
  induction n with
  | zero => intro t ks h; simp [mixK] at h
  | succ n ih =>
    intro t ks h fuel cs x hx
    simp only [mixK] at h
    split at h
    · rename_i k hk
      simp only [Option.some.injEq] at h
      subst h
      obtain ⟨m, rfl, _, hw⟩ := DataW.trod_int hk hx
      refine ⟨rfl, ?_⟩
      intro i kk mm e1 e2
      cases i with
      | zero => simp at e1 e2; subst e1; subst e2; exact ⟨m, rfl, hw⟩
      | succ i => simp at e1
    · rename_i hk
      simp only [Option.some.injEq] at h
      subst h
      obtain ⟨m, rfl, _⟩ := DataW.trod_bool hk hx
      refine ⟨rfl, ?_⟩
      intro i kk mm e1 e2
      cases i with
      | zero => simp at e1 e2; subst e1; subst e2; exact ⟨m, rfl⟩
      | succ i => simp at e1
    · rename_i fs hs
      split at h
      · rename_i k0 hf
        split at h
        · rename_i hc
          simp only [Option.some.injEq] at h
          subst h
          obtain ⟨xs, n', _, _, hl, hxl, hg⟩ := DataW.trod_struct hs hx
          have hns := mixF_trod ih cs _ _ _ hf (by
            intro f hf
            obtain ⟨i, hi, he⟩ := List.mem_iff_getElem.1 hf
            have hi2 : i < xs.length := by rw [hxl]; simpa using hi
            refine ⟨n', xs[i], ?_⟩
            rw [hg i f (by rw [← he]; simp [Array.getElem?_eq_getElem (by simpa using hi)]), List.getElem?_eq_getElem hi2])
          rw [List.drop_zero, List.take_of_length_le (by omega)] at hns
          exact hns
        · cases h
      · cases h
    · cases h
end


theorem okAll_mix {H : Type} {enc : TypeId × Value → H} {P : Program} {w : World} {b0 n : Nat} {t : TypeId} {fs : Array Field} {ks : List CK} {v : Value} {d : DataW H} {ps : List MemPlace} {ts : Array TypeId} {args : Array Value} (hv : OkAll P w b0 ts args) (j : Nat) (e1 : ts[j]? = some t) (e2 : args[j]? = some v)
    (hs : P.underlying t = some (.struct fs)) (hk : mixK P n t = some ks) (h : DataW.Trod enc P w 0 (fun _ => true) true t v d ps) : ∃ cs, v = .agg cs.toArray ∧ MixOf ks cs := by
  obtain ⟨cs, rfl, _⟩ := okWide_struct hs (hv j t v e1 e2)
  obtain ⟨fuel, hf⟩ := h
  exact ⟨_, rfl, by have := mix_trod n t ks hk _ _ _ hf; simpa [Value.cells] using this⟩

theorem mixCol {cs : List Value} (h : MixOf [.n .i64, .n .i64, .n .i64, .n .i64, .n .u64, .n .u64, .b, .n .i64, .n .i64] cs) : ∃ x : ColV, Value.agg cs.toArray = x.val ∧ x.Wf := by
  obtain ⟨hl, hc⟩ := h
  match cs, hl, hc with
  | [v0, v1, v2, v3, v4, v5, v6, v7, v8], _, hc =>
    obtain ⟨n0, rfl, w0⟩ := hc 0 _ _ rfl rfl
    obtain ⟨n1, rfl, w1⟩ := hc 1 _ _ rfl rfl
    obtain ⟨n2, rfl, w2⟩ := hc 2 _ _ rfl rfl
    obtain ⟨n3, rfl, w3⟩ := hc 3 _ _ rfl rfl
    obtain ⟨n4, rfl, w4⟩ := hc 4 _ _ rfl rfl
    obtain ⟨n5, rfl, w5⟩ := hc 5 _ _ rfl rfl
    obtain ⟨n6, rfl⟩ := hc 6 _ _ rfl rfl
    obtain ⟨n7, rfl, w7⟩ := hc 7 _ _ rfl rfl
    obtain ⟨n8, rfl, w8⟩ := hc 8 _ _ rfl rfl
    have b4 := bounds_u64 w4
    have b5 := bounds_u64 w5
    exact ⟨⟨n0, n1, n2, n3, n4, n5, n6, n7, n8⟩, rfl, bounds_i64 w0, bounds_i64 w1, bounds_i64 w2, bounds_i64 w3, ⟨b4.1, by simp only; omega⟩, ⟨b5.1, by simp only; omega⟩, bounds_i64 w7, bounds_i64 w8⟩

theorem okAll_col {H : Type} {enc : TypeId × Value → H} {P : Program} {w : World} {b0 k : Nat} {ty : TypeId} {fs : Array Field} {v : Value} {d : DataW H} {ps : List MemPlace} {ts : Array TypeId} {args : Array Value} (hv : OkAll P w b0 ts args) (j : Nat) (e1 : ts[j]? = some ty) (e2 : args[j]? = some v)
    (hs : P.underlying ty = some (.struct fs)) (hk : mixK P k ty = some [.n .i64, .n .i64, .n .i64, .n .i64, .n .u64, .n .u64, .b, .n .i64, .n .i64]) (h : DataW.Trod enc P w 0 (fun _ => true) true ty v d ps) : ∃ x : ColV, v = x.val ∧ x.Wf := by
  obtain ⟨cs, rfl, hm⟩ := okAll_mix hv j e1 e2 hs hk h
  exact mixCol hm

end Go.Proofs.Ytnhnbgkhbhgifaa
