/- lisp.Held: the walk. -/
import Derived.Maps.AppendAt
import Derived.Test.YtolkgdchinaonaaHeldP
import Derived.Test.YtolkgdchinaonaaPopListW
import Derived.Test.YtolkgdchinaonaaHolds
namespace Go.Proofs.Ytolkgdchinaonaa
open Go.RowKit
set_option linter.unusedVariables false
set_option linter.unusedSimpArgs false

theorem mutsAt_cells {w : World} {a : Option Addr} {m cap : Nat} {l : List MutV} (h : MutsAt w (.slice a m cap) l) {k : Nat} {x : MutV} (hx : l[k]? = some x) : ∃ b o, a = some ⟨b, o, none⟩ ∧ x.Wf ∧ (w.cell? ⟨b, o + k * 13, none⟩ = some (.int .i64 x.line) ∧ w.cell? ⟨b, o + k * 13 + 1, none⟩ = some (.int .i64 x.ok) ∧ w.cell? ⟨b, o + k * 13 + 2, none⟩ = some (.int .i64 x.oa) ∧ w.cell? ⟨b, o + k * 13 + 3, none⟩ = some (.int .i64 x.ob) ∧ w.cell? ⟨b, o + k * 13 + 4, none⟩ = some (.int .i64 x.oc) ∧ w.cell? ⟨b, o + k * 13 + 5, none⟩ = some (.int .u64 x.a) ∧ w.cell? ⟨b, o + k * 13 + 6, none⟩ = some (.int .u64 x.b) ∧ w.cell? ⟨b, o + k * 13 + 7, none⟩ = some (.int .u64 x.c) ∧ w.cell? ⟨b, o + k * 13 + 8, none⟩ = some (.int .u64 x.n) ∧ w.cell? ⟨b, o + k * 13 + 9, none⟩ = some (.int .u64 x.t) ∧ w.cell? ⟨b, o + k * 13 + 10, none⟩ = some (.int .u64 x.p) ∧ w.cell? ⟨b, o + k * 13 + 11, none⟩ = some (.int .i64 x.back) ∧ w.cell? ⟨b, o + k * 13 + 12, none⟩ = some (.int .i64 x.ret)) := by
  obtain ⟨a2, cap2, e, h⟩ := h
  cases e
  have hk : k < l.length := by
    rcases Nat.lt_or_ge k l.length with h | h
    · exact h
    · rw [List.getElem?_eq_none h] at hx; cases hx
  obtain ⟨b, o, rfl, hb, hc⟩ := h (by omega)
  have g := (hc k x hx).2
  exact ⟨b, o, rfl, (hc k x hx).1, g 0 (by omega), g 1 (by omega), g 2 (by omega), g 3 (by omega), g 4 (by omega), g 5 (by omega), g 6 (by omega), g 7 (by omega), g 8 (by omega), g 9 (by omega), g 10 (by omega), g 11 (by omega), g 12 (by omega)⟩
set_option maxRecDepth 100000 in
set_option maxHeartbeats 8000000 in
theorem held_any {w : World} (v : Value) (l : List MutV) (hv : MutsAt w v l) (hl : l.length ≤ 40) :
    Calls Try.prog 71 #[v] w fun e w' => (∃ u, e = .returned u ∧ RdS w' u (heldTo l l.length).length (u64s (heldTo l l.length))) ∧ Fr [] w w' := by
  obtain ⟨i0, hi, hz0, hz1, hz2⟩ := info_parts infoW
  have HV := hid (fun W (f : Fr [] w W) => hv.kept0 f)
  obtain ⟨a, cap, rfl, hcell⟩ := hv
  clear hcell
  obtain ⟨m, hm⟩ : ∃ m, m = l.length := ⟨_, rfl⟩
  have hm40 : m ≤ 40 := by omega
  rw [← hm] at HV
  have Gle := hid (heldTo_len l)
  have Gs := hid (fun k x h => @heldTo_succ l k x h)
  have G0 := hid (heldTo_zero l)
  have hget := hid (fun k (h : k < m) => (⟨l[k]'(by omega), List.getElem?_eq_getElem (by omega)⟩ : ∃ x, l[k]? = some x))
  have hMA := hid (fun W (f : Fr [] w W) k x (hx : l[k]? = some x) => mutsAt_cells (HV.out W f) hx)
  rw [← hm]
  obtain ⟨H, hH⟩ : ∃ H, H = heldTo l := ⟨_, rfl⟩
  rw [← hH] at Gle G0 Gs ⊢
  clear hH hm
  have hFF := Fr.refl [] w
  go_enter Try.func71, Try.ntmps71
  go_wp2_with fail
  go_loopw [3, 12] (fun v i wr => ∃ (k : Nat), k ≤ m ∧ i = .int .i64 k ∧ Hid (wr.ownsRow w.heap.size 36 1 v (H k).length (u64s (H k))) ∧ Fr [] w wr) (fun _ i _ => m - (intOf i).toNat)
  case atStart => exact ⟨0, by omega, rfl, hid (by rw [G0.out]; exact World.ownsRow_nil _ _ _ _), hFF⟩
  case round =>
    clear hFF
    obtain ⟨k, hk, rfl, hown, hFF⟩ := hrel
    by_cases hlt : k < m
    case neg =>
      obtain rfl : k = m := by omega
      go_wp2_with fail
      go_ret
      exact ⟨⟨_, rfl, RdS.of_own hown.out⟩, hFF⟩
    have hkm : (k : Int) < (m : Int) := by omega
    obtain ⟨x, hx⟩ := hget.out k hlt
    obtain ⟨b, o, rfl, _, g0, g1, g2, g3, g4, g5, g6, g7, g8, g9, g10, g11, g12⟩ := hMA.out wr hFF k x hx
    have e1 := hid (Gs.out k x hx)
    have HT := fun W => ltemp_any x W
    have HF := fun W => lfresh_any x W
    unfold tempV at HT
    unfold freshV at HF
    have Gl1 := Gle.out k
    obtain ⟨tb, ht⟩ : ∃ z, z = decide (x.line = 15) := ⟨_, rfl⟩
    obtain ⟨fb, hf⟩ : ∃ z, z = freL x.line x.back := ⟨_, rfl⟩
    obtain ⟨u, hu⟩ : ∃ z, z = (if x.line = 15 then x.b else 0) := ⟨_, rfl⟩
    obtain ⟨z, hz⟩ : ∃ z, z = (if freL x.line x.back = true then x.c else 0) := ⟨_, rfl⟩
    have eT : heldT x = if tb = true then [u] else [] := by rw [ht, hu]; unfold heldT; by_cases h : x.line = 15 <;> simp [h]
    have eF : heldF x = if fb = true then [z] else [] := by rw [hf, hz]; unfold heldF; split <;> rfl
    rw [eT, eF] at e1
    rw [← hu, ← ht] at HT
    rw [← hz, ← hf] at HF
    clear hx eT eF hu hz ht hf
    obtain ⟨line, ok, oa, ob, oc, a, b, c, n, t, p, back, ret⟩ := x
    simp only [MutV.val] at HT HF
    simp only at g0 g1 g2 g3 g4 g5 g6 g7 g8 g9 g10 g11 g12
    replace HT := hid HT
    replace HF := hid HF
    have hX := Blk.new wr [.int .i64 line, .int .i64 ok, .int .i64 oa, .int .i64 ob, .int .i64 oc, .int .u64 a, .int .u64 b, .int .u64 c, .int .u64 n, .int .u64 t, .int .u64 p, .int .i64 back, .int .i64 ret] 54
    have HO := hid (fun j (e : _ = some j) => Nat.ne_of_lt (hown.out.lt j e).2)
    replace hown := hid (hown.out.alloc (.cells #[.int .i64 line, .int .i64 ok, .int .i64 oa, .int .i64 ob, .int .i64 oc, .int .u64 a, .int .u64 b, .int .u64 c, .int .u64 n, .int .u64 t, .int .u64 p, .int .i64 back, .int .i64 ret] 54))
    replace hFF := hFF.alloc (.cells #[.int .i64 line, .int .i64 ok, .int .i64 oa, .int .i64 ob, .int .i64 oc, .int .u64 a, .int .u64 b, .int .u64 c, .int .u64 n, .int .u64 t, .int .u64 p, .int .i64 back, .int .i64 ret] 54)
    have kX := hX.cell
    cases tb <;> cases fb <;> simp only [if_true, Bool.false_eq_true, if_false, List.append_nil] at e1
    · go_wp2_with (first | (go_at_call 68; refine (HT.out _).mono ?_; rintro e w5 ⟨rfl, hF2⟩; (replace hX := hX.kept hF2 List.not_mem_nil); (replace kX := hX.cell); (replace hown := hid (owns_kept0 hown.out hF2)); (have szw5 := hF2.size); (replace hFF := hFF.trans hF2)) | (go_at_call 69; refine (HF.out _).mono ?_; rintro e w6 ⟨rfl, hF2⟩; (replace hX := hX.kept hF2 List.not_mem_nil); (replace kX := hX.cell); (replace hown := hid (owns_kept0 hown.out hF2)); (have szw6 := hF2.size); (replace hFF := hFF.trans hF2)))
      go_roundw
      case rel =>
        refine ⟨k + 1, by omega, by go_num, hid ?_, hFF⟩
        rw [e1.out]
        simpa [u64s] using hown.out
      case measure => simp [intOf]; omega
    · go_wp2_with (first | (go_at_call 68; refine (HT.out _).mono ?_; rintro e w5 ⟨rfl, hF2⟩; (replace hX := hX.kept hF2 List.not_mem_nil); (replace kX := hX.cell); (replace hown := hid (owns_kept0 hown.out hF2)); (have szw5 := hF2.size); (replace hFF := hFF.trans hF2)) | (go_at_call 69; refine (HF.out _).mono ?_; rintro e w6 ⟨rfl, hF2⟩; (replace hX := hX.kept hF2 List.not_mem_nil); (replace kX := hX.cell); (replace hown := hid (owns_kept0 hown.out hF2)); (have szw6 := hF2.size); (replace hFF := hFF.trans hF2)) | (at_builtin; refine wpList_append_own_at _ rfl _ _ 22 rfl w.heap.size 36 i0 (.int .u64 0) 1 8 Try.underlying22 hi hz0 hz1 hz2 rfl (by decide) _ _ _ rfl (hown.out.alloc _) ⟨w6.heap.size, 0, none⟩ 1 1 [.int .u64 z] rfl rfl ?c1 ?c2 ?c3 ?c4 ?c5 ?_))
      case c1 => intro j u' hu; exact news_new w6 [.int .u64 z] 36 j u' hu
      case c2 => simp [Value.oneCell']
      case c3 => simp only [maxLen]; omega
      case c4 => first | omega | (simp; omega)
      case c5 => have := hFF.size; first | omega | (simp only [World.size_alloc]; omega) | (simp only [World.size_alloc] at *; omega)
      intro v' w1 hown1 hg1 _ hat
      have HOlt := fun j (e : _ = some j) => hown.out.lt j e
      replace hX := blk_grown (hX.alloc (.cells #[.int .u64 z] 36)) hg1 (fun e => HO.out _ e rfl)
      replace hFF := (hFF.alloc (.cells #[.int .u64 z] 36)).grown hg1 (fun j hj hj2 => by have := (HOlt j hj).1; omega)
      have HO2 : ∀ j, v'.ownBlock = some j → j ≠ wr.heap.size := by
        intro j e
        rcases hat with q | q
        · exact HO.out j (q ▸ e)
        · rw [q] at e; cases e; (try simp only [World.size_alloc] at *); omega
      have sgw6 := hg1.size
      clear HOlt hg1 hat
      replace HO := hid HO2
      clear HO2
      replace hown := hid hown1
      clear hown1
      have kX := hX.cell
      go_wp2_with fail
      go_roundw
      case rel =>
        refine ⟨k + 1, by omega, by go_num, hid ?_, hFF⟩
        rw [e1.out]
        simpa [u64s] using hown.out
      case measure => simp [intOf]; omega
    · go_wp2_with (first | (go_at_call 68; refine (HT.out _).mono ?_; rintro e w5 ⟨rfl, hF2⟩; (replace hX := hX.kept hF2 List.not_mem_nil); (replace kX := hX.cell); (replace hown := hid (owns_kept0 hown.out hF2)); (have szw5 := hF2.size); (replace hFF := hFF.trans hF2)) | (at_builtin; refine wpList_append_own_at _ rfl _ _ 22 rfl w.heap.size 36 i0 (.int .u64 0) 1 8 Try.underlying22 hi hz0 hz1 hz2 rfl (by decide) _ _ _ rfl (hown.out.alloc _) ⟨w5.heap.size, 0, none⟩ 1 1 [.int .u64 u] rfl rfl ?c1 ?c2 ?c3 ?c4 ?c5 ?_))
      case c1 => intro j u' hu; exact news_new w5 [.int .u64 u] 36 j u' hu
      case c2 => simp [Value.oneCell']
      case c3 => simp only [maxLen]; omega
      case c4 => first | omega | (simp; omega)
      case c5 => have := hFF.size; first | omega | (simp only [World.size_alloc]; omega) | (simp only [World.size_alloc] at *; omega)
      intro v' w1 hown1 hg1 _ hat
      have HOlt := fun j (e : _ = some j) => hown.out.lt j e
      replace hX := blk_grown (hX.alloc (.cells #[.int .u64 u] 36)) hg1 (fun e => HO.out _ e rfl)
      replace hFF := (hFF.alloc (.cells #[.int .u64 u] 36)).grown hg1 (fun j hj hj2 => by have := (HOlt j hj).1; omega)
      have HO2 : ∀ j, v'.ownBlock = some j → j ≠ wr.heap.size := by
        intro j e
        rcases hat with q | q
        · exact HO.out j (q ▸ e)
        · rw [q] at e; cases e; (try simp only [World.size_alloc] at *); omega
      have sgw5 := hg1.size
      clear HOlt hg1 hat
      replace HO := hid HO2
      clear HO2
      replace hown := hid hown1
      clear hown1
      have kX := hX.cell
      go_wp2_with (first | (go_at_call 69; refine (HF.out _).mono ?_; rintro e w6 ⟨rfl, hF2⟩; (replace hX := hX.kept hF2 List.not_mem_nil); (replace kX := hX.cell); (replace hown := hid (owns_kept0 hown.out hF2)); (have szw6 := hF2.size); (replace hFF := hFF.trans hF2)))
      go_roundw
      case rel =>
        refine ⟨k + 1, by omega, by go_num, hid ?_, hFF⟩
        rw [e1.out]
        simpa [u64s] using hown.out
      case measure => simp [intOf]; omega
    · go_wp2_with (first | (go_at_call 68; refine (HT.out _).mono ?_; rintro e w5 ⟨rfl, hF2⟩; (replace hX := hX.kept hF2 List.not_mem_nil); (replace kX := hX.cell); (replace hown := hid (owns_kept0 hown.out hF2)); (have szw5 := hF2.size); (replace hFF := hFF.trans hF2)) | (at_builtin; refine wpList_append_own_at _ rfl _ _ 22 rfl w.heap.size 36 i0 (.int .u64 0) 1 8 Try.underlying22 hi hz0 hz1 hz2 rfl (by decide) _ _ _ rfl (hown.out.alloc _) ⟨w5.heap.size, 0, none⟩ 1 1 [.int .u64 u] rfl rfl ?c1 ?c2 ?c3 ?c4 ?c5 ?_))
      case c1 => intro j u' hu; exact news_new w5 [.int .u64 u] 36 j u' hu
      case c2 => simp [Value.oneCell']
      case c3 => simp only [maxLen]; omega
      case c4 => first | omega | (simp; omega)
      case c5 => have := hFF.size; first | omega | (simp only [World.size_alloc]; omega) | (simp only [World.size_alloc] at *; omega)
      intro v' w1 hown1 hg1 _ hat
      have HOlt := fun j (e : _ = some j) => hown.out.lt j e
      replace hX := blk_grown (hX.alloc (.cells #[.int .u64 u] 36)) hg1 (fun e => HO.out _ e rfl)
      replace hFF := (hFF.alloc (.cells #[.int .u64 u] 36)).grown hg1 (fun j hj hj2 => by have := (HOlt j hj).1; omega)
      have HO2 : ∀ j, v'.ownBlock = some j → j ≠ wr.heap.size := by
        intro j e
        rcases hat with q | q
        · exact HO.out j (q ▸ e)
        · rw [q] at e; cases e; (try simp only [World.size_alloc] at *); omega
      have sgw5 := hg1.size
      clear HOlt hg1 hat
      replace HO := hid HO2
      clear HO2
      replace hown := hid hown1
      clear hown1
      have kX := hX.cell
      go_wp2_with (first | (go_at_call 69; refine (HF.out _).mono ?_; rintro e w6 ⟨rfl, hF2⟩; (replace hX := hX.kept hF2 List.not_mem_nil); (replace kX := hX.cell); (replace hown := hid (owns_kept0 hown.out hF2)); (have szw6 := hF2.size); (replace hFF := hFF.trans hF2)) | (at_builtin; refine wpList_append_own_at _ rfl _ _ 22 rfl w.heap.size 36 i0 (.int .u64 0) 1 8 Try.underlying22 hi hz0 hz1 hz2 rfl (by decide) _ _ _ rfl (hown.out.alloc _) ⟨w6.heap.size, 0, none⟩ 1 1 [.int .u64 z] rfl rfl ?c1 ?c2 ?c3 ?c4 ?c5 ?_))
      case c1 => intro j u' hu; exact news_new w6 [.int .u64 z] 36 j u' hu
      case c2 => simp [Value.oneCell']
      case c3 => simp only [maxLen]; omega
      case c4 => first | omega | (simp; omega)
      case c5 => have := hFF.size; first | omega | (simp only [World.size_alloc]; omega) | (simp only [World.size_alloc] at *; omega)
      intro v' w1 hown1 hg1 _ hat
      have HOlt := fun j (e : _ = some j) => hown.out.lt j e
      replace hX := blk_grown (hX.alloc (.cells #[.int .u64 z] 36)) hg1 (fun e => HO.out _ e rfl)
      replace hFF := (hFF.alloc (.cells #[.int .u64 z] 36)).grown hg1 (fun j hj hj2 => by have := (HOlt j hj).1; omega)
      have HO2 : ∀ j, v'.ownBlock = some j → j ≠ wr.heap.size := by
        intro j e
        rcases hat with q | q
        · exact HO.out j (q ▸ e)
        · rw [q] at e; cases e; (try simp only [World.size_alloc] at *); omega
      have sgw6 := hg1.size
      clear HOlt hg1 hat
      replace HO := hid HO2
      clear HO2
      replace hown := hid hown1
      clear hown1
      have kX := hX.cell
      go_wp2_with fail
      go_roundw
      case rel =>
        refine ⟨k + 1, by omega, by go_num, hid ?_, hFF⟩
        rw [e1.out]
        simpa [u64s] using hown.out
      case measure => simp [intOf]; omega

end Go.Proofs.Ytolkgdchinaonaa
