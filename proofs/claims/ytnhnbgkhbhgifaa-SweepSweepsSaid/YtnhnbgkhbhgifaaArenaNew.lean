/- arena.New, All, Len. -/
import Derived.Test.YtnhnbgkhbhgifaaArena
namespace Go.Proofs.Ytnhnbgkhbhgifaa
open Go.RowKit
set_option linter.unusedVariables false
set_option linter.unusedSimpArgs false

theorem infoU : (Try.prog.info? 213).map (fun i => (i.zero, i.size, i.bytes)) = some (some (.agg #[.int .u64 0]), 1, 8) := by kernel_rfl
theorem infoW : (Try.prog.info? 36).map (fun i => (i.zero, i.size, i.bytes)) = some (some (.int .u64 0), 1, 8) := by kernel_rfl

theorem mkU (w : World) (n : Nat) (hn : n ≤ 35184372088832) : (Instr.makeSlice 206 (.int .i64 (n : Int)) (.int .i64 (n : Int))).run Try.prog w = .ok (.slice (some ⟨w.heap.size, 0, none⟩) n n) (w.alloc (.cells (u64s (List.replicate n 0)).toArray 213)) := by
  obtain ⟨i0, hi, hz0, hz1, hz2⟩ := info_parts infoU
  have h := run_make (P := Try.prog) w 206 213 i0 (.agg #[.int .u64 0]) Try.underlying206 hi hz0 .i64 .i64 n n (by omega) (by omega) (by rw [hz2]; omega) (by omega)
  rw [hz1, zeros_toArray _ (.int .u64 0) _ rfl] at h
  simpa [u64s] using h

theorem mkW (w : World) (n : Nat) (hn : n ≤ 35184372088832) : (Instr.makeSlice 22 (.int .i64 (n : Int)) (.int .i64 (n : Int))).run Try.prog w = .ok (.slice (some ⟨w.heap.size, 0, none⟩) n n) (w.alloc (.cells (u64s (List.replicate n 0)).toArray 36)) := by
  obtain ⟨i0, hi, hz0, hz1, hz2⟩ := info_parts infoW
  have h := run_make (P := Try.prog) w 22 36 i0 (.int .u64 0) Try.underlying22 hi hz0 .i64 .i64 n n (by omega) (by omega) (by rw [hz2]; omega) (by omega)
  rw [hz1, zeros_toArray _ (.int .u64 0) _ rfl] at h
  simpa [u64s] using h

/-- The words that are stored, of n, after k rounds. -/
def upTo (l : List Int) (k : Nat) : List Int := l.take k ++ List.replicate (l.length - k) 0
theorem upTo_length (l : List Int) (k : Nat) (h : k ≤ l.length) : (upTo l k).length = l.length := by simp [upTo]; omega
theorem upTo_set (l : List Int) (k : Nat) (h : k < l.length) : (upTo l k).set k (l.getD k 0) = upTo l (k + 1) := by
  have e1 : l.take k ++ [l.getD k 0] = l.take (k + 1) := by rw [List.take_succ_eq_append_getElem h, List.getD_eq_getElem?_getD, List.getElem?_eq_getElem h]; rfl
  have e2 : List.replicate (l.length - k) (0 : Int) = 0 :: List.replicate (l.length - (k + 1)) 0 := by rw [← List.replicate_succ]; congr 1; omega
  have hlen : (l.take k).length = k := by simp; omega
  unfold upTo
  rw [e2, List.set_append_right _ _ (by omega), hlen, Nat.sub_self, List.set_cons_zero, ← e1]
  simp
theorem upTo_zero (l : List Int) : upTo l 0 = List.replicate l.length 0 := by simp [upTo]
theorem upTo_all (l : List Int) : upTo l l.length = l := by simp [upTo]

theorem anew_some {w : World} {sb so cap : Nat} {l : List Int} (hlt : sb < w.heap.size) (hc : ∀ j, j < l.length → w.cell? ⟨sb, so + j, none⟩ = some (.int .u64 (l.getD j 0)))
    (hn : l.length ≤ 35184372088832) (hwf : ∀ x, x ∈ l → 0 ≤ x ∧ x < 18446744073709551616) :
    Calls Try.prog 87 #[.slice (some ⟨sb, so, none⟩) l.length cap] w fun e w' => e = .returned (.pointer (some ⟨w.heap.size + 1, 0, none⟩)) ∧ (AAt w' (w.heap.size + 1) w.heap.size l ∧ Fr [] w w') := by
  have hmk := mkU w l.length hn
  have HW := hid hwf
  have HC := hid hc
  have hl0 := upTo_zero l
  rw [← hl0] at hmk
  clear hwf hc hl0
  go_enter Try.func87, Try.ntmps87
  go_wp2
  go_loopw [13] (fun i wr => ∃ k : Nat, k ≤ l.length ∧ i = .int .i64 k ∧ Blk wr w.heap.size 213 (u64s (upTo l k)) ∧ Blk wr (w.heap.size + 1) 208 [.slice (some ⟨w.heap.size, 0, none⟩) l.length l.length] ∧ Fr [] w wr) (fun i _ => l.length - (intOf i).toNat)
  case atStart =>
    refine ⟨0, Nat.zero_le _, rfl, (Blk.new _ _ _).alloc _, ?_, ((Fr.refl _ _).alloc _).alloc _⟩
    have := Blk.new (w.alloc (.cells (u64s (upTo l 0)).toArray 213)) [.slice (some ⟨w.heap.size, 0, none⟩) l.length l.length] 208
    simpa using this
  case round =>
    obtain ⟨k, hk, rfl, hD, hH, hF⟩ := hrel
    by_cases hlt2 : k < l.length
    · have hx : wr.cell? ⟨sb, so + k, none⟩ = some (.int .u64 (l.getD k 0)) := (hF.cell hlt (by simp)).trans (HC.out k hlt2)
      have hy := hH.cell 0
      have hlen := upTo_length l k hk
      have hz : wr.cell? ⟨w.heap.size, k, none⟩ = some (.int .u64 ((upTo l k).getD k 0)) := (hD.cell k).trans (u64s_get _ _ (by rw [hlen]; exact hlt2))
      have hf := hD.free k
      have HD := hid (hD.set k (.int .u64 (l.getD k 0)))
      have HL := hid hlen
      clear hlen
      obtain ⟨x, hxx⟩ : ∃ x, x = l.getD k 0 := ⟨_, rfl⟩
      obtain ⟨y, hyy⟩ : ∃ y, y = (upTo l k).getD k 0 := ⟨_, rfl⟩
      rw [← hxx] at hx HD
      rw [← hyy] at hz
      have HX := hid hxx
      clear hxx hyy
      go_wp2_with (first | (go_at_call 139; refine (u64_store w.heap.size k _ _ _ hz hf).mono ?_; rintro e w' ⟨rfl, rfl⟩))
      go_roundw
      case rel =>
        refine ⟨k + 1, by omega, by go_num, ?_, hH.other (by simp) _, hF.setCell (by simp) _⟩
        have h1 := HD.out
        rw [HX.out, u64s_set, upTo_set l k hlt2] at h1
        rw [HX.out]
        exact h1
      case measure => simp [intOf]; omega
    · obtain rfl : k = l.length := by omega
      rw [upTo_all] at hD
      have HD := hid hD
      clear hD
      go_wp2
      go_ret
      exact ⟨rfl, ⟨hH, HD.out, by simp, by omega, HW.out⟩, hF⟩

theorem anew_nil {w : World} {a : Option Addr} {cap : Nat} :
    Calls Try.prog 87 #[.slice a 0 cap] w fun e w' => e = .returned (.pointer (some ⟨w.heap.size + 1, 0, none⟩)) ∧ (AAt w' (w.heap.size + 1) w.heap.size [] ∧ Fr [] w w') := by
  have hmk : (Instr.makeSlice 206 (.int .i64 0) (.int .i64 0)).run Try.prog w = .ok (.slice (some ⟨w.heap.size, 0, none⟩) 0 0) (w.alloc (.cells #[] 213)) := by simpa [u64s] using mkU w 0 (by omega)
  go_enter Try.func87, Try.ntmps87
  go_wp2
  go_loopw [13] (fun i wr => i = .int .i64 0 ∧ Blk wr w.heap.size 213 (u64s []) ∧ Blk wr (w.heap.size + 1) 208 [.slice (some ⟨w.heap.size, 0, none⟩) 0 0] ∧ Fr [] w wr) (fun i _ => 0)
  case atStart =>
    refine ⟨rfl, (Blk.new _ _ _).alloc _, ?_, ((Fr.refl _ _).alloc _).alloc _⟩
    have := Blk.new (w.alloc (.cells #[] 213)) [.slice (some ⟨w.heap.size, 0, none⟩) 0 0] 208
    simpa using this
  case round =>
    obtain ⟨rfl, hD, hH, hF⟩ := hrel
    go_wp2
    go_ret
    exact ⟨rfl, ⟨hH, hD, by simp, by simp, by simp⟩, hF⟩

/-- arena.New of a slice that reads as words. -/
theorem anew_any {w : World} {v : Value} {l : List Int} (hv : RdS w v l.length (u64s l)) (hn : l.length ≤ 35184372088832) (hwf : ∀ x, x ∈ l → 0 ≤ x ∧ x < 18446744073709551616) :
    Calls Try.prog 87 #[v] w fun e w' => e = .returned (.pointer (some ⟨w.heap.size + 1, 0, none⟩)) ∧ (AAt w' (w.heap.size + 1) w.heap.size l ∧ Fr [] w w') := by
  rcases hv with ⟨h0, hl, a, cap, rfl⟩ | ⟨b, o, cap, rfl, hlt, hc⟩
  · have : l = [] := List.eq_nil_of_length_eq_zero h0
    subst this
    exact anew_nil
  · exact anew_some hlt (fun j hj => by rw [hc j (by simpa using hj), u64s_get _ _ hj]) hn hwf

theorem alen_any {w : World} {ab db : Nat} {ws : List Int} (h : AAt w ab db ws) :
    Calls Try.prog 109 #[.pointer (some ⟨ab, 0, none⟩)] w fun e w' => e = .returned (.int .i64 (ws.length : Int)) ∧ w = w' := by
  have hc := h.hdr.cell 0
  have hl := h.len
  go_enter Try.func109, Try.ntmps109
  go_wp2
  go_ret
  exact ⟨rfl, rfl⟩

def SomeOwn (w : World) (T n : Nat) (cs : List Value) (e : Ending) (w' : World) : Prop := ∃ v, e = .returned v ∧ w'.ownsRow w.heap.size T 1 v n cs
theorem u64s_take_succ (l : List Int) (k : Nat) (h : k < l.length) : u64s (l.take k) ++ [.int .u64 (l.getD k 0)] = u64s (l.take (k + 1)) := by
  rw [List.take_succ_eq_append_getElem h, List.getD_eq_getElem?_getD, List.getElem?_eq_getElem h]; simp only [u64s, List.map_append, List.map_cons, List.map_nil, Option.getD_some]

theorem all_any {w : World} {ab db : Nat} {ws : List Int} (h : AAt w ab db ws) (hn : ws.length ≤ 1000000) :
    Calls Try.prog 35 #[.pointer (some ⟨ab, 0, none⟩)] w fun e w' => SomeOwn w 36 ws.length (u64s ws) e w' ∧ Fr [] w w' := by
  obtain ⟨i0, hi, hz0, hz1, hz2⟩ := info_parts infoW
  have ha := h.hdr.lt
  have hd := h.dat.lt
  go_enter Try.func35, Try.ntmps35
  go_wp2_with (first | (go_at_call 109; refine (alen_any h).mono ?_; rintro e w' ⟨rfl, rfl⟩))
  go_loopw [3, 7] (fun v i wr => ∃ k : Nat, k ≤ ws.length ∧ i = .int .i64 k ∧ wr.ownsRow w.heap.size 36 1 v k (u64s (ws.take k)) ∧ Fr [] w wr) (fun _ i _ => ws.length - (intOf i).toNat)
  case atStart => exact ⟨0, Nat.zero_le _, rfl, World.ownsRow_nil _ _ _ _, Fr.refl _ _⟩
  case round =>
    obtain ⟨k, hk, rfl, hown, hF⟩ := hrel
    have hA := h.kept hF (by simp) (by simp)
    have hsz := hF.size
    by_cases hlt2 : k < ws.length
    · have hx : wAt ws (k : Int) = ws.getD k 0 := by rw [wAt, if_pos (by omega)]; simp
      have HX := hid hx
      have HA := hid (aload hA (k : Int))
      clear hx
      have HB : Hid (∀ k, (Value.ownBlock u3) = some k → w.heap.size ≤ k ∧ k < wr.heap.size) := hid hown.lt
      go_wp2_with (first
        | (go_at_call 89; refine HA.out.mono ?_; rintro e w' ⟨rfl, rfl⟩)
        | (at_builtin; refine wpList_append_own _ rfl _ _ 22 rfl w.heap.size 36 i0 (.int .u64 0) 1 8 Try.underlying22 hi hz0 hz1 hz2 rfl (by decide) _ _ _ rfl (hown.alloc _) ⟨wr.heap.size, 0, none⟩ 1 1 [.int .u64 (wAt ws (k : Int))] rfl rfl ?c1 ?c2 ?c3 ?c4 ?c5 ?_))
      case c1 => intro j u hu; match j, hu with | 0, hu => simp at hu; subst hu; simp [Addr.add]
      case c2 => simp [Value.oneCell']
      case c3 => simp only [maxLen]; omega
      case c4 => omega
      case c5 => simp; omega
      intro v' w1 hown1 hg1 _
      have HO := hid hown1
      have HF : Hid (Fr [] w w1) := hid ((hF.alloc _).grown hg1 (fun j hj hj2 => by have := HB.out j hj; omega))
      clear hown1 hg1
      go_wp2
      go_roundw
      case rel =>
        refine ⟨k + 1, by omega, by go_num, ?_, HF.out⟩
        have h1 := HO.out
        rw [HX.out, u64s_take_succ _ _ hlt2] at h1
        exact h1
      case measure => simp [intOf]; omega
    · obtain rfl : k = ws.length := by omega
      rw [List.take_length] at hown
      have HO := hid hown
      clear hown
      go_wp2
      go_ret
      exact ⟨⟨_, rfl, HO.out⟩, hF⟩
end Go.Proofs.Ytnhnbgkhbhgifaa
