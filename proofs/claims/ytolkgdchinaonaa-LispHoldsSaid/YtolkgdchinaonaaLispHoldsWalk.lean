/- mudlarklaw14.LispHolds: the walk. -/
import Derived.Test.YtolkgdchinaonaaHeldW
import Derived.Test.YtolkgdchinaonaaRdAt
import Derived.Test.YtolkgdchinaonaaAwake14
namespace Go.Proofs.Ytolkgdchinaonaa
open Go.RowKit
set_option linter.unusedVariables false
set_option linter.unusedSimpArgs false

set_option maxRecDepth 100000 in
set_option maxHeartbeats 8000000 in
theorem lispHolds_any {w : World} (v : Value) (l : List MutV) (hv : MutsAt w v l) :
    Calls Try.prog 13 #[v] w fun e w' => e = .returned (.bool true) ∧ Fr [] w w' := by
  obtain ⟨i0, hi, hz0, hz1, hz2⟩ := info_parts infoW
  by_cases hl : l.length ≤ 40
  case neg =>
    obtain ⟨a, cap, rfl, hcell⟩ := hv
    clear hcell
    obtain ⟨m, hm⟩ : ∃ m, m = l.length := ⟨_, rfl⟩
    rw [← hm] at hl ⊢
    have hm40 : (40 : Int) < (m : Int) := by omega
    clear hl hm
    have hFF := Fr.refl [] w
    go_enter Try.func13, Try.ntmps13
    go_wp2_with (first | (go_at_call 65; refine (awake14_any _).mono ?_; rintro e w2 ⟨rfl, hF2⟩; (replace hFF := hFF.trans hF2)))
    go_ret
    exact ⟨rfl, hFF⟩
  have HHe := hid (fun W (f : Fr [] w W) => held_any (w := W) _ l (hv.kept0 f) hl)
  have HV := hid (fun W (f : Fr [] w W) => hv.kept0 f)
  obtain ⟨a, cap, rfl, hcell⟩ := hv
  clear hcell
  obtain ⟨m, hm⟩ : ∃ m, m = l.length := ⟨_, rfl⟩
  have hm40 : m ≤ 40 := by omega
  rw [← hm] at HV HHe
  have Gle := hid (heldTo_len l)
  have Gs := hid (fun k x h => @heldTo_succ l k x h)
  have G0 := hid (heldTo_zero l)
  have hget := hid (fun k (h : k < m) => (⟨l[k]'(by omega), List.getElem?_eq_getElem (by omega)⟩ : ∃ x, l[k]? = some x))
  have hMA := hid (fun W (f : Fr [] w W) k x (hx : l[k]? = some x) => mutsAt_cells (HV.out W f) hx)
  obtain ⟨H, hH⟩ : ∃ H, H = heldTo l := ⟨_, rfl⟩
  rw [← hH] at Gle G0 Gs HHe
  rw [← hm]
  clear hH hm
  have hm41 : (m : Int) ≤ 40 := by omega
  have hFF := Fr.refl [] w
  go_enter Try.func13, Try.ntmps13
  go_wp2_with (first | (go_at_call 65; refine (awake14_any _).mono ?_; rintro e w2 ⟨rfl, hF2⟩; (replace hFF := hFF.trans hF2)))
  go_loopw [3, 4] (fun v i wr => ∃ (k : Nat), k ≤ m ∧ i = .int .i64 k ∧ Hid (wr.ownsRow w.heap.size 36 1 v (H k).length (u64s (H k))) ∧ Fr [] w wr) (fun _ i _ => m - (intOf i).toNat)
  case atStart => exact ⟨0, by omega, rfl, hid (by rw [G0.out]; exact World.ownsRow_nil _ _ _ _), hFF⟩
  case round =>
    clear hFF
    obtain ⟨k, hk, rfl, hown, hFF⟩ := hrel
    by_cases hlt : k < m
    case neg =>
      obtain rfl : k = m := by omega
      have Gl1 := Gle.out k
      go_wp2_with (first | (go_at_call 71; refine (HHe.out _ hFF).mono ?_; rintro e w6 ⟨⟨u, rfl, hU⟩, hF2⟩; (replace hown := hid (owns_kept0 hown.out hF2)); (replace hFF := hFF.trans hF2)) | (go_at_call 26; refine (same_n rfl (by omega) hU (RdS.of_own hown.out)).mono ?_; rintro e w7 ⟨rfl, hF2⟩; (replace hFF := hFF.trans hF2)))
      go_ret
      exact ⟨rfl, hFF⟩
    have hkm : (k : Int) < (m : Int) := by omega
    obtain ⟨x, hx⟩ := hget.out k hlt
    obtain ⟨b, o, rfl, _, g0, g1, g2, g3, g4, g5, g6, g7, g8, g9, g10, g11, g12⟩ := hMA.out wr hFF k x hx
    have e1 := hid (Gs.out k x hx)
    have HT := fun W => ltemp_any x W
    have HF := fun W => lfresh_any x W
    have RT := fun W => rtemp_any x W
    have RF := fun W => rfresh_any x W
    have HL := fun W => llate_any x W
    unfold tempV at HT RT
    unfold freshV at HF RF
    unfold lateV at HL
    have Gl1 := Gle.out k
    obtain ⟨tb, ht⟩ : ∃ z, z = decide (x.line = 15) := ⟨_, rfl⟩
    obtain ⟨fb, hf⟩ : ∃ z, z = freL x.line x.back := ⟨_, rfl⟩
    obtain ⟨u, hu⟩ : ∃ z, z = (if x.line = 15 then x.b else 0) := ⟨_, rfl⟩
    obtain ⟨z, hz⟩ : ∃ z, z = (if freL x.line x.back = true then x.c else 0) := ⟨_, rfl⟩
    have eT : heldT x = if tb = true then [u] else [] := by rw [ht, hu]; unfold heldT; by_cases h : x.line = 15 <;> simp [h]
    have eF : heldF x = if fb = true then [z] else [] := by rw [hf, hz]; unfold heldF; split <;> rfl
    rw [eT, eF] at e1
    rw [← hu, ← ht] at HT RT
    rw [← hz, ← hf] at HF RF
    rw [← ht, ← hf] at HL
    have qu : (u != u) = false := by simp
    have qz : (z != z) = false := by simp
    clear hx eT eF hu hz ht hf
    obtain ⟨line, ok, oa, ob, oc, a, b, c, n, t, p, back, ret⟩ := x
    simp only [MutV.val] at HT HF RT RF HL
    simp only at g0 g1 g2 g3 g4 g5 g6 g7 g8 g9 g10 g11 g12
    replace HT := hid HT
    replace HF := hid HF
    replace RT := hid RT
    replace RF := hid RF
    have qo : (oa != oa) = false := by simp
    have hX := Blk.new wr [.int .i64 line, .int .i64 ok, .int .i64 oa, .int .i64 ob, .int .i64 oc, .int .u64 a, .int .u64 b, .int .u64 c, .int .u64 n, .int .u64 t, .int .u64 p, .int .i64 back, .int .i64 ret] 54
    have HO := hid (fun j (e : _ = some j) => Nat.ne_of_lt (hown.out.lt j e).2)
    replace hown := hid (hown.out.alloc (.cells #[.int .i64 line, .int .i64 ok, .int .i64 oa, .int .i64 ob, .int .i64 oc, .int .u64 a, .int .u64 b, .int .u64 c, .int .u64 n, .int .u64 t, .int .u64 p, .int .i64 back, .int .i64 ret] 54))
    replace hFF := hFF.alloc (.cells #[.int .i64 line, .int .i64 ok, .int .i64 oa, .int .i64 ob, .int .i64 oc, .int .u64 a, .int .u64 b, .int .u64 c, .int .u64 n, .int .u64 t, .int .u64 p, .int .i64 back, .int .i64 ret] 54)
    have kX := hX.cell
    cases tb <;> cases fb <;> simp only [if_true, Bool.false_eq_true, if_false, List.append_nil, Bool.or_self, Bool.or_false, Bool.or_true, Bool.true_or, Bool.false_or] at e1 HL
    · replace HL := hid HL
      go_wp2_with (first | (go_at_call 66; refine (RT.out _).mono ?_; rintro e w3 ⟨rfl, hF2⟩; (replace hX := hX.kept hF2 List.not_mem_nil); (replace kX := hX.cell); (replace hown := hid (owns_kept0 hown.out hF2)); (have szw3 := hF2.size); (replace hFF := hFF.trans hF2)) | (go_at_call 67; refine (RF.out _).mono ?_; rintro e w4 ⟨rfl, hF2⟩; (replace hX := hX.kept hF2 List.not_mem_nil); (replace kX := hX.cell); (replace hown := hid (owns_kept0 hown.out hF2)); (have szw4 := hF2.size); (replace hFF := hFF.trans hF2)) | (go_at_call 68; refine (HT.out _).mono ?_; rintro e w5 ⟨rfl, hF2⟩; (replace hX := hX.kept hF2 List.not_mem_nil); (replace kX := hX.cell); (replace hown := hid (owns_kept0 hown.out hF2)); (have szw5 := hF2.size); (replace hFF := hFF.trans hF2)) | (go_at_call 69; refine (HF.out _).mono ?_; rintro e w6 ⟨rfl, hF2⟩; (replace hX := hX.kept hF2 List.not_mem_nil); (replace kX := hX.cell); (replace hown := hid (owns_kept0 hown.out hF2)); (have szw6 := hF2.size); (replace hFF := hFF.trans hF2)) | (go_at_call 70; refine (HL.out _).mono ?_; rintro e w8 ⟨rfl, hF2⟩; (replace hX := hX.kept hF2 List.not_mem_nil); (replace kX := hX.cell); (replace hown := hid (owns_kept0 hown.out hF2)); (have szw8 := hF2.size); (replace hFF := hFF.trans hF2)))
      go_roundw
      case rel =>
        refine ⟨k + 1, by omega, by go_num, hid ?_, hFF⟩
        rw [e1.out]
        simpa [u64s] using hown.out
      case measure => simp [intOf]; omega
    · replace HL := hid HL
      go_wp2_with (first | (go_at_call 66; refine (RT.out _).mono ?_; rintro e w3 ⟨rfl, hF2⟩; (replace hX := hX.kept hF2 List.not_mem_nil); (replace kX := hX.cell); (replace hown := hid (owns_kept0 hown.out hF2)); (have szw3 := hF2.size); (replace hFF := hFF.trans hF2)) | (go_at_call 67; refine (RF.out _).mono ?_; rintro e w4 ⟨rfl, hF2⟩; (replace hX := hX.kept hF2 List.not_mem_nil); (replace kX := hX.cell); (replace hown := hid (owns_kept0 hown.out hF2)); (have szw4 := hF2.size); (replace hFF := hFF.trans hF2)) | (go_at_call 68; refine (HT.out _).mono ?_; rintro e w5 ⟨rfl, hF2⟩; (replace hX := hX.kept hF2 List.not_mem_nil); (replace kX := hX.cell); (replace hown := hid (owns_kept0 hown.out hF2)); (have szw5 := hF2.size); (replace hFF := hFF.trans hF2)) | (go_at_call 69; refine (HF.out _).mono ?_; rintro e w6 ⟨rfl, hF2⟩; (replace hX := hX.kept hF2 List.not_mem_nil); (replace kX := hX.cell); (replace hown := hid (owns_kept0 hown.out hF2)); (have szw6 := hF2.size); (replace hFF := hFF.trans hF2)) | (go_at_call 70; refine (HL.out _).mono ?_; rintro e w8 ⟨rfl, hF2⟩; (replace hX := hX.kept hF2 List.not_mem_nil); (replace kX := hX.cell); (replace hown := hid (owns_kept0 hown.out hF2)); (have szw8 := hF2.size); (replace hFF := hFF.trans hF2)) | (at_builtin; refine wpList_append_own_at _ rfl _ _ 22 rfl w.heap.size 36 i0 (.int .u64 0) 1 8 Try.underlying22 hi hz0 hz1 hz2 rfl (by decide) _ _ _ rfl (hown.out.alloc _) ⟨w8.heap.size, 0, none⟩ 1 1 [.int .u64 z] rfl rfl ?c1 ?c2 ?c3 ?c4 ?c5 ?_))
      case c1 => intro j u' hu; exact news_new w8 [.int .u64 z] 36 j u' hu
      case c2 => simp [Value.oneCell']
      case c3 => simp only [maxLen]; omega
      case c4 => first | omega | (simp; omega)
      case c5 => have := hFF.size; first | omega | (simp only [World.size_alloc]; omega) | (simp only [World.size_alloc] at *; omega)
      intro v' w1 hown1 hg1 _ hat
      have HOlt := fun j (e : _ = some j) => hown.out.lt j e
      replace hX := blk_grown (hX.alloc (.cells #[.int .u64 z] 36)) hg1 (fun e => HO.out _ e rfl)
      replace hFF := (hFF.alloc (.cells #[.int .u64 z] 36)).grown hg1 (fun j hj hj2 => by have := (HOlt j hj).1; omega)
      have HO2 : ∀ j, v'.ownBlock = some j → j ≠ wr.heap.size := by
        intro j e
        rcases hat with q | q
        · exact HO.out j (q ▸ e)
        · rw [q] at e; cases e; (try simp only [World.size_alloc] at *); omega
      have sgw8 := hg1.size
      clear HOlt hg1 hat
      replace HO := hid HO2
      clear HO2
      replace hown := hid hown1
      clear hown1
      have kX := hX.cell
      go_wp2_with fail
      go_roundw
      case rel =>
        refine ⟨k + 1, by omega, by go_num, hid ?_, hFF⟩
        rw [e1.out]
        simpa [u64s] using hown.out
      case measure => simp [intOf]; omega
    · replace HL := hid HL
      go_wp2_with (first | (go_at_call 66; refine (RT.out _).mono ?_; rintro e w3 ⟨rfl, hF2⟩; (replace hX := hX.kept hF2 List.not_mem_nil); (replace kX := hX.cell); (replace hown := hid (owns_kept0 hown.out hF2)); (have szw3 := hF2.size); (replace hFF := hFF.trans hF2)) | (go_at_call 67; refine (RF.out _).mono ?_; rintro e w4 ⟨rfl, hF2⟩; (replace hX := hX.kept hF2 List.not_mem_nil); (replace kX := hX.cell); (replace hown := hid (owns_kept0 hown.out hF2)); (have szw4 := hF2.size); (replace hFF := hFF.trans hF2)) | (go_at_call 68; refine (HT.out _).mono ?_; rintro e w5 ⟨rfl, hF2⟩; (replace hX := hX.kept hF2 List.not_mem_nil); (replace kX := hX.cell); (replace hown := hid (owns_kept0 hown.out hF2)); (have szw5 := hF2.size); (replace hFF := hFF.trans hF2)) | (go_at_call 69; refine (HF.out _).mono ?_; rintro e w6 ⟨rfl, hF2⟩; (replace hX := hX.kept hF2 List.not_mem_nil); (replace kX := hX.cell); (replace hown := hid (owns_kept0 hown.out hF2)); (have szw6 := hF2.size); (replace hFF := hFF.trans hF2)) | (go_at_call 70; refine (HL.out _).mono ?_; rintro e w8 ⟨rfl, hF2⟩; (replace hX := hX.kept hF2 List.not_mem_nil); (replace kX := hX.cell); (replace hown := hid (owns_kept0 hown.out hF2)); (have szw8 := hF2.size); (replace hFF := hFF.trans hF2)) | (at_builtin; refine wpList_append_own_at _ rfl _ _ 22 rfl w.heap.size 36 i0 (.int .u64 0) 1 8 Try.underlying22 hi hz0 hz1 hz2 rfl (by decide) _ _ _ rfl (hown.out.alloc _) ⟨w8.heap.size, 0, none⟩ 1 1 [.int .u64 u] rfl rfl ?c1 ?c2 ?c3 ?c4 ?c5 ?_))
      case c1 => intro j u' hu; exact news_new w8 [.int .u64 u] 36 j u' hu
      case c2 => simp [Value.oneCell']
      case c3 => simp only [maxLen]; omega
      case c4 => first | omega | (simp; omega)
      case c5 => have := hFF.size; first | omega | (simp only [World.size_alloc]; omega) | (simp only [World.size_alloc] at *; omega)
      intro v' w1 hown1 hg1 _ hat
      have HOlt := fun j (e : _ = some j) => hown.out.lt j e
      replace hX := blk_grown (hX.alloc (.cells #[.int .u64 u] 36)) hg1 (fun e => HO.out _ e rfl)
      replace hFF := (hFF.alloc (.cells #[.int .u64 u] 36)).grown hg1 (fun j hj hj2 => by have := (HOlt j hj).1; omega)
      have HO2 : ∀ j, v'.ownBlock = some j → j ≠ wr.heap.size := by
        intro j e
        rcases hat with q | q
        · exact HO.out j (q ▸ e)
        · rw [q] at e; cases e; (try simp only [World.size_alloc] at *); omega
      have sgw8 := hg1.size
      clear HOlt hg1 hat
      replace HO := hid HO2
      clear HO2
      replace hown := hid hown1
      clear hown1
      have kX := hX.cell
      go_wp2_with fail
      go_roundw
      case rel =>
        refine ⟨k + 1, by omega, by go_num, hid ?_, hFF⟩
        rw [e1.out]
        simpa [u64s] using hown.out
      case measure => simp [intOf]; omega
    · replace HL := hid HL
      go_wp2_with (first | (go_at_call 66; refine (RT.out _).mono ?_; rintro e w3 ⟨rfl, hF2⟩; (replace hX := hX.kept hF2 List.not_mem_nil); (replace kX := hX.cell); (replace hown := hid (owns_kept0 hown.out hF2)); (have szw3 := hF2.size); (replace hFF := hFF.trans hF2)) | (go_at_call 67; refine (RF.out _).mono ?_; rintro e w4 ⟨rfl, hF2⟩; (replace hX := hX.kept hF2 List.not_mem_nil); (replace kX := hX.cell); (replace hown := hid (owns_kept0 hown.out hF2)); (have szw4 := hF2.size); (replace hFF := hFF.trans hF2)) | (go_at_call 68; refine (HT.out _).mono ?_; rintro e w5 ⟨rfl, hF2⟩; (replace hX := hX.kept hF2 List.not_mem_nil); (replace kX := hX.cell); (replace hown := hid (owns_kept0 hown.out hF2)); (have szw5 := hF2.size); (replace hFF := hFF.trans hF2)) | (go_at_call 69; refine (HF.out _).mono ?_; rintro e w6 ⟨rfl, hF2⟩; (replace hX := hX.kept hF2 List.not_mem_nil); (replace kX := hX.cell); (replace hown := hid (owns_kept0 hown.out hF2)); (have szw6 := hF2.size); (replace hFF := hFF.trans hF2)) | (go_at_call 70; refine (HL.out _).mono ?_; rintro e w8 ⟨rfl, hF2⟩; (replace hX := hX.kept hF2 List.not_mem_nil); (replace kX := hX.cell); (replace hown := hid (owns_kept0 hown.out hF2)); (have szw8 := hF2.size); (replace hFF := hFF.trans hF2)) | (at_builtin; refine wpList_append_own_at _ rfl _ _ 22 rfl w.heap.size 36 i0 (.int .u64 0) 1 8 Try.underlying22 hi hz0 hz1 hz2 rfl (by decide) _ _ _ rfl (hown.out.alloc _) ⟨w8.heap.size, 0, none⟩ 1 1 [.int .u64 u] rfl rfl ?c1 ?c2 ?c3 ?c4 ?c5 ?_))
      case c1 => intro j u' hu; exact news_new w8 [.int .u64 u] 36 j u' hu
      case c2 => simp [Value.oneCell']
      case c3 => simp only [maxLen]; omega
      case c4 => first | omega | (simp; omega)
      case c5 => have := hFF.size; first | omega | (simp only [World.size_alloc]; omega) | (simp only [World.size_alloc] at *; omega)
      intro v' w1 hown1 hg1 _ hat
      have HOlt := fun j (e : _ = some j) => hown.out.lt j e
      replace hX := blk_grown (hX.alloc (.cells #[.int .u64 u] 36)) hg1 (fun e => HO.out _ e rfl)
      replace hFF := (hFF.alloc (.cells #[.int .u64 u] 36)).grown hg1 (fun j hj hj2 => by have := (HOlt j hj).1; omega)
      have HO2 : ∀ j, v'.ownBlock = some j → j ≠ wr.heap.size := by
        intro j e
        rcases hat with q | q
        · exact HO.out j (q ▸ e)
        · rw [q] at e; cases e; (try simp only [World.size_alloc] at *); omega
      have sgw8 := hg1.size
      clear HOlt hg1 hat
      replace HO := hid HO2
      clear HO2
      replace hown := hid hown1
      clear hown1
      have kX := hX.cell
      go_wp2_with (first | (at_builtin; refine wpList_append_own_at _ rfl _ _ 22 rfl w.heap.size 36 i0 (.int .u64 0) 1 8 Try.underlying22 hi hz0 hz1 hz2 rfl (by decide) _ _ _ rfl (hown.out.alloc _) ⟨w1.heap.size, 0, none⟩ 1 1 [.int .u64 z] rfl rfl ?c1 ?c2 ?c3 ?c4 ?c5 ?_))
      case c1 => intro j u' hu; exact news_new w1 [.int .u64 z] 36 j u' hu
      case c2 => simp [Value.oneCell']
      case c3 => simp only [maxLen]; omega
      case c4 => first | omega | (simp; omega)
      case c5 => have := hFF.size; first | omega | (simp only [World.size_alloc]; omega) | (simp only [World.size_alloc] at *; omega)
      intro v' w9 hown1 hg1 _ hat
      have HOlt := fun j (e : _ = some j) => hown.out.lt j e
      replace hX := blk_grown (hX.alloc (.cells #[.int .u64 z] 36)) hg1 (fun e => HO.out _ e rfl)
      replace hFF := (hFF.alloc (.cells #[.int .u64 z] 36)).grown hg1 (fun j hj hj2 => by have := (HOlt j hj).1; omega)
      have HO2 : ∀ j, v'.ownBlock = some j → j ≠ wr.heap.size := by
        intro j e
        rcases hat with q | q
        · exact HO.out j (q ▸ e)
        · rw [q] at e; cases e; (try simp only [World.size_alloc] at *); omega
      have sgw1 := hg1.size
      clear HOlt hg1 hat
      replace HO := hid HO2
      clear HO2
      replace hown := hid hown1
      clear hown1
      have kX := hX.cell
      go_wp2_with fail
      go_roundw
      case rel =>
        refine ⟨k + 1, by omega, by go_num, hid ?_, hFF⟩
        rw [e1.out]
        simpa [u64s] using hown.out
      case measure => simp [intOf]; omega

end Go.Proofs.Ytolkgdchinaonaa
