/- Arguments that are whole numbers through and through (structs of numbers, rows of such): what their reading says of the cells. No program is named here. -/
import Derived.Test.YtnhnbgkhbhgifaaBase
import Derived.ProofKit
import Derived.OpenShut
import Derived.SizedLaws
import Derived.Below
namespace Go.Proofs.Ytnhnbgkhbhgifaa
open Go.ChangeShapes Go.WideShapes Go.ChangeAt Go.RowKit

/-- The kinds of the cells of a struct's fields, if they lie one behind another. -/
def flatF (P : Program) (rec : TypeId → Option (List IntKind)) : Nat → List Field → Option (List IntKind)
  | _, [] => some []
  | off, f :: fs =>
    if f.offset = off then
      match rec f.type with
      | some ks => if P.cellsOf f.type = ks.length then (flatF P rec (off + ks.length) fs).map (ks ++ ·) else none
      | none => none
    else none
/-- The kinds of a type's cells, if it is numbers through and through. -/
def flatK (P : Program) : Nat → TypeId → Option (List IntKind)
  | 0, _ => none
  | n + 1, t =>
    match P.underlying t with
    | some (.int k) => some [k]
    | some (.struct fs) =>
      match flatF P (flatK P n) 0 fs.toList with
      | some ks => if P.cellsOf t = ks.length then some ks else none
      | none => none
    | _ => none

/-- Cells that are numbers of these kinds, each within its kind. -/
def IntsOf (ks : List IntKind) (cs : List Value) (ns : List Int) : Prop :=
  ns.length = ks.length ∧ cs = List.zipWith Value.int ks ns ∧ ∀ (i : Nat) (k : IntKind) (m : Int), ks[i]? = some k → ns[i]? = some m → (Lit.int k m).wf = true

theorem IntsOf.append {ks js : List IntKind} {cs ds : List Value} {ns ms : List Int} (h : IntsOf ks cs ns) (k : IntsOf js ds ms) : IntsOf (ks ++ js) (cs ++ ds) (ns ++ ms) := by
  obtain ⟨h1, h2, h3⟩ := h
  obtain ⟨k1, k2, k3⟩ := k
  refine ⟨by simp [h1, k1], by rw [h2, k2, List.zipWith_append h1.symm], ?_⟩
  intro i kk m e1 e2
  by_cases hi : i < ks.length
  · rw [List.getElem?_append_left hi] at e1
    rw [List.getElem?_append_left (by omega)] at e2
    exact h3 i kk m e1 e2
  · rw [List.getElem?_append_right (by omega)] at e1 e2
    rw [h1] at e2
    exact k3 _ kk m e1 e2

section
variable {H : Type} {enc : TypeId × Value → H} {P : Program} {w : World} {base : Nat} {spare : Nat → Bool} {held : Bool}

theorem flatF_trod {rec : TypeId → Option (List IntKind)} (hr : ∀ t ks, rec t = some ks → ∀ fuel cs x, DataW.trod enc P w base spare held fuel t cs = some x → ∃ ns, IntsOf ks cs ns) (cs : List Value) :
    ∀ (fs : List Field) (off : Nat) (ks : List IntKind), flatF P rec off fs = some ks →
      (∀ f, f ∈ fs → ∃ m y, DataW.trod enc P w base spare held m f.type ((cs.drop f.offset).take (P.cellsOf f.type)) = some y) →
      ∃ ns, IntsOf ks ((cs.drop off).take ks.length) ns := by
  intro fs
  induction fs with
  | nil =>
    intro off ks h _
    simp only [flatF, Option.some.injEq] at h
    subst h
    exact ⟨[], rfl, by simp, by simp⟩
  | cons f fs ih =>
    intro off ks h hy
    simp only [flatF] at h
    split at h
    · rename_i ho
      split at h
      · rename_i k0 hk
        split at h
        · rename_i hc
          simp only [Option.map_eq_some_iff] at h
          obtain ⟨k1, h1, rfl⟩ := h
          obtain ⟨ns1, g1⟩ := ih _ _ h1 (fun f hf => hy f (List.mem_cons_of_mem _ hf))
          obtain ⟨m, y, hm⟩ := hy f List.mem_cons_self
          obtain ⟨ns0, g0⟩ := hr _ _ hk _ _ _ hm
          rw [ho, hc] at g0
          refine ⟨ns0 ++ ns1, ?_⟩
          rw [List.length_append, List.take_add, List.drop_drop]
          exact g0.append g1
        · cases h
      · cases h
    · cases h

theorem flat_trod : ∀ (n : Nat) (t : TypeId) (ks : List IntKind), flatK P n t = some ks → ∀ fuel cs x, DataW.trod enc P w base spare held fuel t cs = some x → ∃ ns, IntsOf ks cs ns := by
  intro n
  induction n with
  | zero => intro t ks h; simp [flatK] at h
  | succ n ih =>
    intro t ks h fuel cs x hx
    simp only [flatK] at h
    split at h
    · rename_i k hk
      simp only [Option.some.injEq] at h
      subst h
      obtain ⟨m, rfl, _, hw⟩ := DataW.trod_int hk hx
      refine ⟨[m], rfl, rfl, ?_⟩
      intro i kk mm e1 e2
      cases i with
      | zero => simp at e1 e2; subst e1; subst e2; exact hw
      | succ i => simp at e1
    · rename_i fs hs
      split at h
      · rename_i k0 hf
        split at h
        · rename_i hc
          simp only [Option.some.injEq] at h
          subst h
          obtain ⟨xs, n', _, _, hl, hxl, hg⟩ := DataW.trod_struct hs hx
          obtain ⟨ns, hns⟩ := flatF_trod ih cs _ _ _ hf (by
            intro f hf
            obtain ⟨i, hi, he⟩ := List.mem_iff_getElem.1 hf
            have hi2 : i < xs.length := by rw [hxl]; simpa using hi
            refine ⟨n', xs[i], ?_⟩
            rw [hg i f (by rw [← he]; simp [Array.getElem?_eq_getElem (by simpa using hi)]), List.getElem?_eq_getElem hi2])
          refine ⟨ns, ?_⟩
          rw [List.drop_zero, List.take_of_length_le (by omega)] at hns
          exact hns
        · cases h
      · cases h
    · cases h

theorem cell_of_cells? {a : Addr} {n : Nat} {cs : List Value} (h : w.cells? base a n = some cs) : cs.length = n ∧ ∀ j, j < n → w.cell? (a.add j) = cs[j]? := by
  unfold World.cells? at h
  split at h
  · have hl := mapM_some_length h
    refine ⟨by simpa using hl, fun j hj => ?_⟩
    have := mapM_some_get h j j (by simp [hj])
    exact this
  · cases h

theorem list_of_each {α : Type} {Q : Nat → α → Prop} (l : Nat) (h : ∀ i, i < l → ∃ r, Q i r) : ∃ rows : List α, rows.length = l ∧ ∀ i, i < l → ∃ r, rows[i]? = some r ∧ Q i r := by
  induction l with
  | zero => exact ⟨[], rfl, fun i hi => absurd hi (by omega)⟩
  | succ l ih =>
    obtain ⟨rows, h1, h2⟩ := ih (fun i hi => h i (by omega))
    obtain ⟨r, hr⟩ := h l (by omega)
    refine ⟨rows ++ [r], by simp [h1], fun i hi => ?_⟩
    by_cases hil : i < l
    · obtain ⟨r', g1, g2⟩ := h2 i hil
      exact ⟨r', by rw [List.getElem?_append_left (by omega)]; exact g1, g2⟩
    · obtain rfl : i = l := by omega
      exact ⟨r, by rw [List.getElem?_append_right (by omega)]; simp [h1], hr⟩

theorem flatZip_get {ks : List IntKind} : ∀ (rows : List (List Int)), (∀ r, r ∈ rows → r.length = ks.length) → ∀ (i j : Nat) (r : List Int), rows[i]? = some r → j < ks.length → (rows.flatMap fun r => List.zipWith Value.int ks r)[i * ks.length + j]? = (List.zipWith Value.int ks r)[j]? := by
  intro rows
  induction rows with
  | nil => intro _ i j r h; simp at h
  | cons r0 rs ih =>
    intro hm i j r g1 hj
    have hz : (List.zipWith Value.int ks r0).length = ks.length := by rw [List.length_zipWith, hm r0 List.mem_cons_self, Nat.min_self]
    rw [List.flatMap_cons]
    cases i with
    | zero =>
      simp only [List.getElem?_cons_zero, Option.some.injEq] at g1
      subst g1
      rw [Nat.zero_mul, Nat.zero_add, List.getElem?_append_left (by omega)]
    | succ i =>
      rw [List.getElem?_cons_succ] at g1
      rw [List.getElem?_append_right (by rw [hz, Nat.add_mul]; omega), hz]
      have : (i + 1) * ks.length + j - ks.length = i * ks.length + j := by rw [Nat.add_mul]; omega
      rw [this]
      exact ih (fun r hr => hm r (List.mem_cons_of_mem _ hr)) i j r g1 hj
theorem flatZip_length {ks : List IntKind} : ∀ (rows : List (List Int)), (∀ r, r ∈ rows → r.length = ks.length) → (rows.flatMap fun r => List.zipWith Value.int ks r).length = rows.length * ks.length := by
  intro rows
  induction rows with
  | nil => simp
  | cons r rs ih =>
    intro hm
    rw [List.flatMap_cons, List.length_append, ih (fun r hr => hm r (List.mem_cons_of_mem _ hr)), List.length_zipWith, hm r List.mem_cons_self, Nat.min_self, List.length_cons, Nat.add_mul]
    omega

/-- A row of such numbers: nil or empty, or a block's cells. -/
theorem flat_row {n : Nat} {t e : TypeId} {ks : List IntKind} {v : Value} {d : DataW H} {ps : List MemPlace} (ht : P.underlying t = some (.slice e)) (hk : flatK P n e = some ks) (hc : P.cellsOf e = ks.length) (hk0 : 0 < ks.length)
    (hv : ∃ a len cap, v = .slice a len cap) (h : DataW.Trod enc P w 0 (fun _ => true) true t v d ps) :
    ∃ (len : Nat) (rows : List (List Int)), rows.length = len ∧ (∀ r, r ∈ rows → r.length = ks.length ∧ ∀ (i : Nat) (k : IntKind) (m : Int), ks[i]? = some k → r[i]? = some m → (Lit.int k m).wf = true) ∧
      RdS w v len (rows.flatMap fun r => List.zipWith Value.int ks r) ∧
      (d = .nil ∧ len = 0 ∨ ∃ el sp, d = .slice el sp ∧ el.length = len) := by
  obtain ⟨a, l, c, rfl⟩ := hv
  obtain ⟨fuel, hf⟩ := h
  rcases DataW.trod_slice ht hf with ⟨hcs, hx⟩ | ⟨a', len, cap, elems, rest, m, _, hcs, hx, hb, hl, hm, hel, hat, _, _⟩
  · simp [Value.cells] at hcs
    obtain ⟨rfl, rfl, rfl⟩ := hcs
    simp only [Prod.mk.injEq] at hx
    exact ⟨0, [], rfl, by simp, .inl ⟨rfl, by simp, _, _, rfl⟩, .inl ⟨hx.1, rfl⟩⟩
  · simp [Value.cells] at hcs
    obtain ⟨rfl, rfl, rfl⟩ := hcs
    simp only [Prod.mk.injEq] at hx
    have hrow : ∀ i, i < l → ∃ ns, ns.length = ks.length ∧ (∀ (i : Nat) (k : IntKind) (m : Int), ks[i]? = some k → ns[i]? = some m → (Lit.int k m).wf = true) ∧ ∀ j, j < ks.length → w.cell? (a'.add (i * ks.length + j)) = (List.zipWith Value.int ks ns)[j]? := by
      intro i hi
      have h1 := hat i hi
      rw [List.getElem?_eq_getElem (by omega), Option.bind_eq_some_iff] at h1
      obtain ⟨cs, h2, h3⟩ := h1
      obtain ⟨ns, n1, n2, n3⟩ := flat_trod n e ks hk _ _ _ h3
      obtain ⟨_, h5⟩ := cell_of_cells? h2
      refine ⟨ns, n1, n3, fun j hj => ?_⟩
      have := h5 j (by rw [hc]; exact hj)
      rw [← n2, ← this, hc, Addr.add_add]
    obtain ⟨rows, hrl, hrows⟩ := list_of_each l hrow
    have hmem : ∀ r, r ∈ rows → r.length = ks.length ∧ ∀ (i : Nat) (k : IntKind) (m : Int), ks[i]? = some k → r[i]? = some m → (Lit.int k m).wf = true := by
      intro r hr
      obtain ⟨i, hi, he⟩ := List.mem_iff_getElem.1 hr
      obtain ⟨r', g1, g2, g3, _⟩ := hrows i (by omega)
      rw [List.getElem?_eq_getElem hi, he] at g1
      cases g1
      exact ⟨g2, g3⟩
    refine ⟨l, rows, hrl, hmem, ?_, .inr ⟨_, _, hx.1, by simp [hel]⟩⟩
    by_cases hl0 : l = 0
    · subst hl0
      have : rows = [] := List.eq_nil_of_length_eq_zero hrl
      subst this
      exact .inl ⟨rfl, by simp, _, _, rfl⟩
    · have hcell : ∀ i, i < l → ∀ j, j < ks.length → w.cell? (a'.add (i * ks.length + j)) = (rows.flatMap fun r => List.zipWith Value.int ks r)[i * ks.length + j]? := by
        intro i hi j hj
        obtain ⟨r, g1, g2, _, g4⟩ := hrows i hi
        rw [g4 j hj, flatZip_get rows (fun r hr => (hmem r hr).1) i j r g1 hj]
      have h00 := hcell 0 (by omega) 0 hk0
      obtain ⟨b, o, s⟩ := a'
      have hlen : (rows.flatMap fun r => List.zipWith Value.int ks r).length = l * ks.length := by
        rw [flatZip_length rows (fun r hr => (hmem r hr).1), hrl]
      obtain ⟨u, hu⟩ : ∃ u, (rows.flatMap fun r => List.zipWith Value.int ks r)[0 * ks.length + 0]? = some u := ⟨_, List.getElem?_eq_getElem (by rw [hlen]; have : 0 < l * ks.length := Nat.mul_pos (by omega) hk0; omega)⟩
      rw [hu] at h00
      have hspot : s = none := by simpa [Addr.add] using World.cell?_spot h00
      subst hspot
      simp only [addr_add] at h00 hcell
      refine .inr ⟨b, o, c, rfl, cell_lt h00, fun j hj => ?_⟩
      rw [hlen] at hj
      have hd : j / ks.length < l := by rw [Nat.div_lt_iff_lt_mul hk0]; exact hj
      have := hcell (j / ks.length) hd (j % ks.length) (Nat.mod_lt _ hk0)
      have e : j / ks.length * ks.length + j % ks.length = j := by rw [Nat.mul_comm]; exact Nat.div_add_mod j ks.length
      rw [e] at this
      exact this

/-- A struct of such numbers. -/
theorem flat_agg {r : Reach} {b0 n : Nat} {t : TypeId} {fs : Array Field} {ks : List IntKind} {v : Value} {d : DataW H} {ps : List MemPlace} (hs : P.underlying t = some (.struct fs)) (hk : flatK P n t = some ks) (hv : Value.okWide P w r b0 t v) (h : DataW.Trod enc P w 0 (fun _ => true) true t v d ps) :
    ∃ ns, v = .agg (List.zipWith Value.int ks ns).toArray ∧ ns.length = ks.length ∧ ∀ (i : Nat) (k : IntKind) (m : Int), ks[i]? = some k → ns[i]? = some m → (Lit.int k m).wf = true := by
  obtain ⟨cs, rfl, _⟩ := okWide_struct hs hv
  obtain ⟨fuel, hf⟩ := h
  obtain ⟨ns, h1, h2, h3⟩ := flat_trod n t ks hk _ _ _ hf
  refine ⟨ns, ?_, h1, h3⟩
  simp only [Value.cells] at h2
  rw [← h2]
theorem flat_one {k : IntKind} {n : Nat} {t e : TypeId} {v : Value} {d : DataW H} {ps : List MemPlace} (ht : P.underlying t = some (.slice e)) (hk : flatK P n e = some [k]) (hc : P.cellsOf e = 1)
    (hv : ∃ a len cap, v = .slice a len cap) (h : DataW.Trod enc P w 0 (fun _ => true) true t v d ps) :
    ∃ l : List Int, RdS w v l.length (l.map (Value.int k)) ∧ (∀ x, x ∈ l → (Lit.int k x).wf = true) ∧ (d = .nil ∧ l.length = 0 ∨ ∃ el sp, d = .slice el sp ∧ el.length = l.length) := by
  obtain ⟨len, rows, hl, hm, hr, hd⟩ := flat_row ht hk hc (by simp) hv h
  have hrows : ∀ rs : List (List Int), (∀ r, r ∈ rs → r.length = [k].length) → (rs.flatMap fun r => List.zipWith Value.int [k] r) = (rs.map (·.getD 0 0)).map (Value.int k) := by
    intro rs
    induction rs with
    | nil => intro _; rfl
    | cons r rs ih =>
      intro h1
      rw [List.flatMap_cons, ih (fun r hr => h1 r (List.mem_cons_of_mem _ hr))]
      match r, h1 r List.mem_cons_self with
      | [x], _ => rfl
  refine ⟨rows.map (·.getD 0 0), ?_, ?_, ?_⟩
  · rw [List.length_map, hl, ← hrows rows (fun r hr => (hm r hr).1)]
    exact hr
  · intro x hx
    obtain ⟨r, hr1, rfl⟩ := List.mem_map.1 hx
    obtain ⟨h1, h2⟩ := hm r hr1
    match r, h1, h2 with
    | [y], _, h2 => exact h2 0 k y rfl rfl
  · rw [List.length_map, hl]
    exact hd
theorem flat_words {n : Nat} {t e : TypeId} {v : Value} {d : DataW H} {ps : List MemPlace} (ht : P.underlying t = some (.slice e)) (hk : flatK P n e = some [.u64]) (hc : P.cellsOf e = 1)
    (hv : ∃ a len cap, v = .slice a len cap) (h : DataW.Trod enc P w 0 (fun _ => true) true t v d ps) :
    ∃ l : List Int, RdS w v l.length (u64s l) ∧ (∀ x, x ∈ l → 0 ≤ x ∧ x < 18446744073709551616) ∧ (d = .nil ∧ l.length = 0 ∨ ∃ el sp, d = .slice el sp ∧ el.length = l.length) := by
  obtain ⟨l, h1, h2, h3⟩ := flat_one ht hk hc hv h
  exact ⟨l, h1, fun x hx => by have := bounds_u64 (h2 x hx); omega, h3⟩
theorem flat_ints {n : Nat} {t e : TypeId} {v : Value} {d : DataW H} {ps : List MemPlace} (ht : P.underlying t = some (.slice e)) (hk : flatK P n e = some [.i64]) (hc : P.cellsOf e = 1)
    (hv : ∃ a len cap, v = .slice a len cap) (h : DataW.Trod enc P w 0 (fun _ => true) true t v d ps) :
    ∃ l : List Int, RdS w v l.length (l.map (Value.int .i64)) ∧ (∀ x, x ∈ l → -9223372036854775808 ≤ x ∧ x ≤ 9223372036854775807) ∧ (d = .nil ∧ l.length = 0 ∨ ∃ el sp, d = .slice el sp ∧ el.length = l.length) := by
  obtain ⟨l, h1, h2, h3⟩ := flat_one ht hk hc hv h
  exact ⟨l, h1, fun x hx => bounds_i64 (h2 x hx), h3⟩
theorem flat_bytes {n : Nat} {t e : TypeId} {v : Value} {d : DataW H} {ps : List MemPlace} (ht : P.underlying t = some (.slice e)) (hk : flatK P n e = some [.u8]) (hc : P.cellsOf e = 1)
    (hv : ∃ a len cap, v = .slice a len cap) (h : DataW.Trod enc P w 0 (fun _ => true) true t v d ps) :
    ∃ l : List Int, RdS w v l.length (l.map (Value.int .u8)) ∧ (∀ x, x ∈ l → 0 ≤ x ∧ x ≤ 255) ∧ (d = .nil ∧ l.length = 0 ∨ ∃ el sp, d = .slice el sp ∧ el.length = l.length) := by
  obtain ⟨l, h1, h2, h3⟩ := flat_one ht hk hc hv h
  exact ⟨l, h1, fun x hx => bounds_u8 (h2 x hx), h3⟩

/- 'okWide' at a great program must never be looked into: so the facts on all arguments are handed over as one. -/
abbrev OkAll (P : Program) (w : World) (b0 : Nat) (ts : Array TypeId) (args : Array Value) : Prop := ∀ (j : Nat) t v, ts[j]? = some t → args[j]? = some v → Value.okWide P w .any b0 t v
theorem okAll_agg {b0 n : Nat} {t : TypeId} {fs : Array Field} {ks : List IntKind} {v : Value} {d : DataW H} {ps : List MemPlace} {ts : Array TypeId} {args : Array Value} (hv : OkAll P w b0 ts args) (j : Nat) (e1 : ts[j]? = some t) (e2 : args[j]? = some v)
    (hs : P.underlying t = some (.struct fs)) (hk : flatK P n t = some ks) (h : DataW.Trod enc P w 0 (fun _ => true) true t v d ps) :
    ∃ ns, v = .agg (List.zipWith Value.int ks ns).toArray ∧ ns.length = ks.length ∧ ∀ (i : Nat) (k : IntKind) (m : Int), ks[i]? = some k → ns[i]? = some m → (Lit.int k m).wf = true :=
  flat_agg hs hk (hv j t v e1 e2) h
theorem okAll_slice {b0 : Nat} {t e : TypeId} {v : Value} {ts : Array TypeId} {args : Array Value} (hv : OkAll P w b0 ts args) (j : Nat) (e1 : ts[j]? = some t) (e2 : args[j]? = some v) (hs : P.underlying t = some (.slice e)) : ∃ a len cap, v = .slice a len cap :=
  okWide_slice hs (hv j t v e1 e2)
theorem okAll_int {b0 : Nat} {t : TypeId} {k : IntKind} {v : Value} {d : DataW H} {ps : List MemPlace} {ts : Array TypeId} {args : Array Value} (hv : OkAll P w b0 ts args) (j : Nat) (e1 : ts[j]? = some t) (e2 : args[j]? = some v) (hs : P.underlying t = some (.int k))
    (h : DataW.Trod enc P w 0 (fun _ => true) true t v d ps) : ∃ n, v = .int k n ∧ (Lit.int k n).wf = true := by
  obtain ⟨n, h1, _, _, h2⟩ := open_int hs (hv j t v e1 e2) h
  exact ⟨n, h1, h2⟩

end

end Go.Proofs.Ytnhnbgkhbhgifaa
