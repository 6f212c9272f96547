/- The free list's slices as the laws read them. -/
import Derived.Test.YtnhnbgkhbhgifaaChain
import Derived.Test.YtnhnbgkhbhgifaaRdAt
import Derived.Test.YtnhnbgkhbhgifaaRefListW
import Derived.Test.YtnhnbgkhbhgifaaPopBad
import Derived.Test.YtnhnbgkhbhgifaaIntsRef
namespace Go.Proofs.Ytnhnbgkhbhgifaa
open Go.RowKit
set_option linter.unusedVariables false
set_option linter.unusedSimpArgs false

/-- No list. -/
def ListNone (e : Ending) : Prop := ∃ a cap, e = .returned (.tuple #[.slice a 0 cap, .bool false])
/-- A list of m cells. -/
def ListSome (B m : Nat) (L : List Int) (e : Ending) (w' : World) : Prop := ∃ ub uo cap, e = .returned (.tuple #[.slice (some ⟨ub, uo, none⟩) m cap, .bool true]) ∧ RdS w' (.slice (some ⟨ub, uo, none⟩) m cap) m (i64s L) ∧ m ≤ cap ∧ B ≤ ub
theorem RdS.ati {w : World} {b o n cap : Nat} {l : List Int} (h : RdS w (.slice (some ⟨b, o, none⟩) n cap) n (i64s l)) (k : Nat) (hk : k < l.length) (x : Int) (hx : l[k]? = some x) : w.cell? ⟨b, o + k, none⟩ = some (.int .i64 x) := by
  rcases h with ⟨_, h2, _⟩ | ⟨b2, o2, cap2, e, _, hc⟩
  · have : (i64s l).length = 0 := by rw [h2]; rfl
    simp at this; rw [this] at hk; simp at hk
  · cases e
    rw [hc k (by simpa using hk)]
    simp [i64s, hx]
theorem RdS.basei {w : World} {u : Value} {n : Nat} {l : List Int} (h : RdS w u n (i64s l)) (h0 : 0 < l.length) : ∃ b o cap, u = .slice (some ⟨b, o, none⟩) n cap := by
  rcases h with ⟨_, h2, _⟩ | ⟨b2, o2, cap2, e, hb, hc⟩
  · have : (i64s l).length = 0 := by rw [h2]; rfl
    simp at this; rw [this] at h0; simp at h0
  · exact ⟨_, _, _, e⟩
theorem RdS.tail {w : World} {b o n cap cap2 : Nat} {y : Int} {l : List Int} (h : RdS w (.slice (some ⟨b, o, none⟩) (n + 1) cap) (n + 1) (i64s (y :: l))) : RdS w (.slice (some ⟨b, o + 1, none⟩) n cap2) n (i64s l) := by
  rcases h with ⟨h1, _, _⟩ | ⟨b2, o2, cap2', e, hb, hc⟩
  · omega
  · cases e
    refine .inr ⟨_, _, _, rfl, hb, fun j hj => ?_⟩
    have := hc (j + 1) (by simpa [i64s] using hj)
    rw [Nat.add_assoc, Nat.add_comm 1 j, this]
    simp [i64s]
theorem list_none {w : World} (c : Cfg) (a : Option Addr) (cap : Nat) (l : List Int) (hv : RdS w (.slice a l.length cap) l.length (u64s l)) (hl : l.length ≤ 35184372088832) (hwf : ∀ x, x ∈ l → 0 ≤ x ∧ x < 18446744073709551616) (h : c.Right ∧ (l.length : Int) = c.words → popList c l = none) :
    Calls Try.prog 120 #[c.val, .slice a l.length cap] w fun e w' => ListNone e ∧ Fr [] w w' := by
  by_cases hok : c.Right ∧ (l.length : Int) = c.words
  · refine (popList_any hok.1 _ l hv hok.2 hwf).mono ?_
    rw [h hok]
    rintro e w' ⟨⟨u, rfl, hu⟩, hF⟩
    obtain ⟨a, cap, rfl, _⟩ := hu.elim
    exact ⟨⟨_, _, rfl⟩, hF⟩
  · refine (popList_bad c a l.length cap hok hl).mono ?_
    rintro e w' ⟨⟨u, rfl, hu⟩, hF⟩
    obtain ⟨a, cap, rfl, _⟩ := hu.elim
    exact ⟨⟨_, _, rfl⟩, hF⟩
theorem list_some {w : World} {c : Cfg} (hR : c.Right) {v : Value} {l L : List Int} {nn m : Nat} (hv : RdS w v nn (u64s l)) (hn : l.length = nn ∧ (l.length : Int) = c.words) (hwf : ∀ x, x ∈ l → 0 ≤ x ∧ x < 18446744073709551616) (h : popList c l = some L) (hL : L ≠ []) (hm : L.length = m) :
    Calls Try.prog 120 #[c.val, v] w fun e w' => ListSome w.heap.size m L e w' ∧ Fr [] w w' := by
  obtain ⟨rfl, hn⟩ := hn
  subst hm
  refine (popList_own hR _ l hv hn hwf).mono ?_
  rw [h]
  rintro e w' ⟨⟨u, rfl, hu, hc⟩, hF⟩
  obtain ⟨b, o, cap, rfl⟩ := hu.basei (List.length_pos_iff.2 hL)
  obtain ⟨⟨_, _, _, e2, h2⟩, hb⟩ := hc
  cases e2
  exact ⟨⟨_, _, _, rfl, hu, h2, hb _ rfl⟩, hF⟩
theorem rlist_none {w : World} (c : Cfg) (a : Option Addr) (cap : Nat) (l : List Int) (hv : RdS w (.slice a l.length cap) l.length (u64s l)) (hl : l.length ≤ 35184372088832) (hwf : ∀ x, x ∈ l → 0 ≤ x ∧ x < 18446744073709551616) (h : c.Right ∧ (l.length : Int) = c.words → popList c l = none) :
    Calls Try.prog 33 #[c.val, .slice a l.length cap] w fun e w' => ListNone e ∧ Fr [] w w' := by
  by_cases hok : c.Right ∧ (l.length : Int) = c.words
  · refine (refList_any hok.1 _ l hv hok.2 hwf).mono ?_
    rw [← refList_eq, h hok]
    rintro e w' ⟨⟨u, rfl, hu⟩, hF⟩
    obtain ⟨a, cap, rfl, _⟩ := hu.elim
    exact ⟨⟨_, _, rfl⟩, hF⟩
  · refine (refList_bad c a l.length cap hok hl).mono ?_
    rintro e w' ⟨⟨u, rfl, hu⟩, hF⟩
    obtain ⟨a, cap, rfl, _⟩ := hu.elim
    exact ⟨⟨_, _, rfl⟩, hF⟩
theorem rlist_some {w : World} {c : Cfg} (hR : c.Right) {v : Value} {l L : List Int} {nn m : Nat} (hv : RdS w v nn (u64s l)) (hn : l.length = nn ∧ (l.length : Int) = c.words) (hwf : ∀ x, x ∈ l → 0 ≤ x ∧ x < 18446744073709551616) (h : popList c l = some L) (hL : L ≠ []) (hm : L.length = m) :
    Calls Try.prog 33 #[c.val, v] w fun e w' => (∃ ub uo cap, e = .returned (.tuple #[.slice (some ⟨ub, uo, none⟩) m cap, .bool true]) ∧ RdS w' (.slice (some ⟨ub, uo, none⟩) m cap) m (i64s L)) ∧ Fr [] w w' := by
  obtain ⟨rfl, hn⟩ := hn
  subst hm
  refine (refList_any hR _ l hv hn hwf).mono ?_
  rw [← refList_eq, h]
  rintro e w' ⟨⟨u, rfl, hu⟩, hF⟩
  obtain ⟨b, o, cap, rfl⟩ := hu.basei (List.length_pos_iff.2 hL)
  exact ⟨⟨_, _, _, rfl, hu⟩, hF⟩
theorem ints_n {w : World} {u v : Value} {n : Nat} {a : List Int} (e : a.length = n) (hn : n ≤ 35184372088832) (hu : RdS w u n (i64s a)) (hv : RdS w v n (i64s a)) :
    Calls Try.prog 36 #[u, v] w fun e w' => e = .returned (.bool true) ∧ Fr [] w w' := by
  subst e
  exact ints_true hn hu hv
theorem popList_ne {c : Cfg} {l L : List Int} (h : popList c l = some L) : L ≠ [] := by
  obtain ⟨r, e, _, _, _, hz⟩ := popGo_some _ _ _ _ h
  exact hz

end Go.Proofs.Ytnhnbgkhbhgifaa
