/- Reading a slice of words at an index. -/
import Derived.Test.YtnhnbgkhbhgifaaPlain
import Derived.Test.YtnhnbgkhbhgifaaLaw10
import Derived.Test.YtnhnbgkhbhgifaaHandMore
namespace Go.Proofs.Ytnhnbgkhbhgifaa
open Go.RowKit
set_option linter.unusedVariables false
set_option linter.unusedSimpArgs false

theorem getD_wAt (l : List Int) (k : Nat) (hk : k < l.length) : l.getD k 0 = wAt l k := by
  unfold wAt; rw [if_pos (by omega)]; simp
theorem RdS.at {w : World} {b o n cap : Nat} {l : List Int} (h : RdS w (.slice (some ⟨b, o, none⟩) n cap) n (u64s l)) (k : Nat) (hk : k < l.length) : w.cell? ⟨b, o + k, none⟩ = some (.int .u64 (wAt l k)) := by
  rcases h with ⟨_, h2, _⟩ | ⟨b2, o2, cap2, e, _, hc⟩
  · have : (u64s l).length = 0 := by rw [h2]; rfl
    simp at this; rw [this] at hk; simp at hk
  · cases e
    rw [hc k (by simpa using hk), u64s_get l k hk, getD_wAt l k hk]
/-- A slice with an element begins in a block. -/
theorem RdS.base {w : World} {a : Option Addr} {n cap : Nat} {l : List Int} (h : RdS w (.slice a n cap) n (u64s l)) (h0 : 0 < l.length) : ∃ b o, a = some ⟨b, o, none⟩ ∧ b < w.heap.size := by
  rcases h with ⟨_, h2, _⟩ | ⟨b2, o2, cap2, e, hb, hc⟩
  · have : (u64s l).length = 0 := by rw [h2]; rfl
    simp at this; rw [this] at h0; simp at h0
  · cases e; exact ⟨_, _, rfl, hb⟩
theorem Blk.setM {w : World} {b : Nat} {t : TypeId} {u0 u1 u2 u3 u4 u5 u6 u7 u8 u9 u10 u11 u12 : Value} (h : Blk w b t [u0, u1, u2, u3, u4, u5, u6, u7, u8, u9, u10, u11, u12]) (v0 v1 v2 v3 v4 v5 v6 v7 v8 v9 v10 v11 v12 : Value) :
    Blk (((((((((((((w.setCell ⟨b, 0, none⟩ v0).setCell ⟨b, 1, none⟩ v1).setCell ⟨b, 2, none⟩ v2).setCell ⟨b, 3, none⟩ v3).setCell ⟨b, 4, none⟩ v4).setCell ⟨b, 5, none⟩ v5).setCell ⟨b, 6, none⟩ v6).setCell ⟨b, 7, none⟩ v7).setCell ⟨b, 8, none⟩ v8).setCell ⟨b, 9, none⟩ v9).setCell ⟨b, 10, none⟩ v10).setCell ⟨b, 11, none⟩ v11).setCell ⟨b, 12, none⟩ v12) b t [v0, v1, v2, v3, v4, v5, v6, v7, v8, v9, v10, v11, v12] := by
  have z := ((((((((((((h.set 0 v0).set 1 v1).set 2 v2).set 3 v3).set 4 v4).set 5 v5).set 6 v6).set 7 v7).set 8 v8).set 9 v9).set 10 v10).set 11 v11).set 12 v12
  simp only [List.set_cons_zero, List.set_cons_succ] at z
  exact z
theorem HAt.setM {w : World} {h ab db b : Nat} {s : HS} (H : HAt w h ab db s) (d1 : h ≠ b) (d2 : ab ≠ b) (d3 : db ≠ b) (v0 v1 v2 v3 v4 v5 v6 v7 v8 v9 v10 v11 v12 : Value) : HAt (((((((((((((w.setCell ⟨b, 0, none⟩ v0).setCell ⟨b, 1, none⟩ v1).setCell ⟨b, 2, none⟩ v2).setCell ⟨b, 3, none⟩ v3).setCell ⟨b, 4, none⟩ v4).setCell ⟨b, 5, none⟩ v5).setCell ⟨b, 6, none⟩ v6).setCell ⟨b, 7, none⟩ v7).setCell ⟨b, 8, none⟩ v8).setCell ⟨b, 9, none⟩ v9).setCell ⟨b, 10, none⟩ v10).setCell ⟨b, 11, none⟩ v11).setCell ⟨b, 12, none⟩ v12) h ab db s :=
  (((((((((((((H.other (p := ⟨b, 0, none⟩) d1 d2 d3 v0).other (p := ⟨b, 1, none⟩) d1 d2 d3 v1).other (p := ⟨b, 2, none⟩) d1 d2 d3 v2).other (p := ⟨b, 3, none⟩) d1 d2 d3 v3).other (p := ⟨b, 4, none⟩) d1 d2 d3 v4).other (p := ⟨b, 5, none⟩) d1 d2 d3 v5).other (p := ⟨b, 6, none⟩) d1 d2 d3 v6).other (p := ⟨b, 7, none⟩) d1 d2 d3 v7).other (p := ⟨b, 8, none⟩) d1 d2 d3 v8).other (p := ⟨b, 9, none⟩) d1 d2 d3 v9).other (p := ⟨b, 10, none⟩) d1 d2 d3 v10).other (p := ⟨b, 11, none⟩) d1 d2 d3 v11).other (p := ⟨b, 12, none⟩) d1 d2 d3 v12)
theorem Fr.setM {S : List Nat} {a w : World} {b : Nat} (H : Fr S a w) (hb : a.heap.size ≤ b) (v0 v1 v2 v3 v4 v5 v6 v7 v8 v9 v10 v11 v12 : Value) : Fr S a (((((((((((((w.setCell ⟨b, 0, none⟩ v0).setCell ⟨b, 1, none⟩ v1).setCell ⟨b, 2, none⟩ v2).setCell ⟨b, 3, none⟩ v3).setCell ⟨b, 4, none⟩ v4).setCell ⟨b, 5, none⟩ v5).setCell ⟨b, 6, none⟩ v6).setCell ⟨b, 7, none⟩ v7).setCell ⟨b, 8, none⟩ v8).setCell ⟨b, 9, none⟩ v9).setCell ⟨b, 10, none⟩ v10).setCell ⟨b, 11, none⟩ v11).setCell ⟨b, 12, none⟩ v12) :=
  (((((((((((((H.setNew (p := ⟨b, 0, none⟩) hb v0).setNew (p := ⟨b, 1, none⟩) hb v1).setNew (p := ⟨b, 2, none⟩) hb v2).setNew (p := ⟨b, 3, none⟩) hb v3).setNew (p := ⟨b, 4, none⟩) hb v4).setNew (p := ⟨b, 5, none⟩) hb v5).setNew (p := ⟨b, 6, none⟩) hb v6).setNew (p := ⟨b, 7, none⟩) hb v7).setNew (p := ⟨b, 8, none⟩) hb v8).setNew (p := ⟨b, 9, none⟩) hb v9).setNew (p := ⟨b, 10, none⟩) hb v10).setNew (p := ⟨b, 11, none⟩) hb v11).setNew (p := ⟨b, 12, none⟩) hb v12)
theorem Blk.othM {w : World} {b k : Nat} {t : TypeId} {cs : List Value} (H : Blk w k t cs) (d : k ≠ b) (v0 v1 v2 v3 v4 v5 v6 v7 v8 v9 v10 v11 v12 : Value) : Blk (((((((((((((w.setCell ⟨b, 0, none⟩ v0).setCell ⟨b, 1, none⟩ v1).setCell ⟨b, 2, none⟩ v2).setCell ⟨b, 3, none⟩ v3).setCell ⟨b, 4, none⟩ v4).setCell ⟨b, 5, none⟩ v5).setCell ⟨b, 6, none⟩ v6).setCell ⟨b, 7, none⟩ v7).setCell ⟨b, 8, none⟩ v8).setCell ⟨b, 9, none⟩ v9).setCell ⟨b, 10, none⟩ v10).setCell ⟨b, 11, none⟩ v11).setCell ⟨b, 12, none⟩ v12) k t cs :=
  (((((((((((((H.other (p := ⟨b, 0, none⟩) d v0).other (p := ⟨b, 1, none⟩) d v1).other (p := ⟨b, 2, none⟩) d v2).other (p := ⟨b, 3, none⟩) d v3).other (p := ⟨b, 4, none⟩) d v4).other (p := ⟨b, 5, none⟩) d v5).other (p := ⟨b, 6, none⟩) d v6).other (p := ⟨b, 7, none⟩) d v7).other (p := ⟨b, 8, none⟩) d v8).other (p := ⟨b, 9, none⟩) d v9).other (p := ⟨b, 10, none⟩) d v10).other (p := ⟨b, 11, none⟩) d v11).other (p := ⟨b, 12, none⟩) d v12)
theorem RdS.ltb {w : World} {b o n cap : Nat} {cs : List Value} (h : RdS w (.slice (some ⟨b, o, none⟩) n cap) n cs) (h0 : 0 < n) : b < w.heap.size := by
  rcases h with ⟨h1, _, _⟩ | ⟨b2, o2, cap2, e, hb, hc⟩
  · omega
  · cases e; exact hb
theorem DAt.at {w : World} {g : Nat} {l : List Int} {ext : List Value} (h : DAt w g l ext) (k : Nat) (hk : k < l.length) : w.cell? ⟨g, k, none⟩ = some (.int .u64 (wAt l k)) := by
  have := (h.rds (cap := 0)).at k hk
  rwa [Nat.zero_add] at this
theorem RdS.ofN {w : World} {g n : Nat} {l : List Int} {ext : List Value} (h : DAt w g l ext) (cap : Nat) (e : l.length = n) : RdS w (.slice (some ⟨g, 0, none⟩) n cap) n (u64s l) := by
  subst e; exact h.rds
/-- All words of a hand, in a new slice. -/
def NewN (w : World) (l : List Int) (n : Nat) (e : Ending) (w' : World) : Prop := ∃ g cap ext, e = .returned (.slice (some ⟨g, 0, none⟩) n cap) ∧ DAt w' g l ext ∧ w.heap.size ≤ g
theorem HAt.allN {w : World} {h ab db n : Nat} {s : HS} {ws : List Int} (H : HAt w h ab db s) (e : s.ws = ws) (hn : ws.length = n) :
    Calls Try.prog 35 #[.pointer (some ⟨ab, 0, none⟩)] w fun e w' => NewN w ws n e w' ∧ Fr [] w w' := by
  subst e
  subst hn
  exact H.allD
theorem same_n {w : World} {u v : Value} {n : Nat} {a : List Int} (e : a.length = n) (hn : n ≤ 20000) (hu : RdS w u n (u64s a)) (hv : RdS w v n (u64s a)) :
    Calls Try.prog 20 #[u, v] w fun e w' => e = .returned (.bool true) ∧ Fr [] w w' := by
  subst e
  exact same_true (by omega) hu hv
theorem rCopy_n {w : World} {v : Value} {n : Nat} {a : List Int} (hv : RdS w v n (u64s a)) (h0 : 0 < a.length) (ha : a.length ≤ 1000000 ∧ a.length = n) (hwf : ∀ x, x ∈ a → 0 ≤ x ∧ x < 18446744073709551616) :
    Calls Try.prog 15 #[v] w fun e w' => NewN w a n e w' ∧ Fr [] w w' := by
  obtain ⟨h1, rfl⟩ := ha
  exact rCopy_pos hv h1 h0 hwf
theorem HAt.world {w : World} {h ab db : Nat} {s : HS} (H : HAt w h ab db s) : ∃ W, W = w := ⟨_, rfl⟩
theorem wAt_in {l : List Int} (hwf : ∀ x, x ∈ l → 0 ≤ x ∧ x < 18446744073709551616) (k : Int) : 0 ≤ wAt l k ∧ wAt l k < 18446744073709551616 := by
  unfold wAt
  split
  · rename_i h
    have hk : k.toNat < l.length := by omega
    have : l.getD k.toNat 0 = l[k.toNat] := by simp [List.getD_eq_getElem?_getD, List.getElem?_eq_getElem hk]
    rw [this]
    exact hwf _ (List.getElem_mem hk)
  · omega

end Go.Proofs.Ytnhnbgkhbhgifaa
