/- mudlarkref13.List: the walk. -/
import Derived.Test.YtnhnbgkhbhgifaaPopEq
import Derived.Test.YtnhnbgkhbhgifaaPopListW
import Derived.Test.YtnhnbgkhbhgifaaRefAt
namespace Go.Proofs.Ytnhnbgkhbhgifaa
open Go.RowKit
set_option linter.unusedVariables false
set_option linter.unusedSimpArgs false

set_option maxRecDepth 100000 in
set_option maxHeartbeats 4000000 in
theorem refList_own {w : World} {c : Cfg} (hR : c.Right) (v : Value) (l : List Int) (hv : RdS w v l.length (u64s l)) (hn : (l.length : Int) = c.words) (hwf : ∀ x, x ∈ l → 0 ≤ x ∧ x < 18446744073709551616) :
    Calls Try.prog 33 #[c.val, v] w fun e w' => (∃ u, e = .returned (.tuple #[u, .bool (refList c l).isSome]) ∧ RdS w' u ((refList c l).getD []).length (i64s ((refList c l).getD [])) ∧ ∀ b, u.ownBlock = some b → w.heap.size ≤ b) ∧ Fr [] w w' := by
  have hw := hR.words_pos
  have HRt := hid (fun W => rRight_any c W true hR.right)
  have HS := hid (fun W => rWords_any hR W)
  obtain ⟨i0, hi, hz0, hz1, hz2⟩ := info_parts infoI1
  obtain ⟨b, o, cap, rfl, hbb, hcs⟩ : ∃ b o cap, v = .slice (some ⟨b, o, none⟩) l.length cap ∧ b < w.heap.size ∧ ∀ j, j < (u64s l).length → w.cell? ⟨b, o + j, none⟩ = (u64s l)[j]? := by
    obtain ⟨ua, uc, rfl, hu⟩ := hv.elim
    obtain ⟨b, o, rfl, h1, h2⟩ := hu (by omega)
    exact ⟨b, o, uc, rfl, h1, h2⟩
  have hl0 : (0 : Int) < (l.length : Int) := by omega
  have h00 : w.cell? ⟨b, o, none⟩ = some (.int .u64 (wAt l 0)) := by
    have := (hcs 0 (by simp; omega)).trans (u64s_get l 0 (by omega))
    rw [Nat.add_zero] at this
    rw [wAt, if_pos ⟨by omega, hl0⟩]
    exact this
  have HCS := hid hcs
  rw [← hn] at HS
  have hne : ((l.length : Int) != (l.length : Int)) = false := by simp
  obtain ⟨P, hP⟩ : ∃ P, P = refList c l := ⟨_, rfl⟩
  rw [← hP]
  unfold refList at hP
  replace hP := hid hP
  have hc0 := hR.c0
  have hc1 := hR.c1
  have HR := hid hR
  have HN := hid hn
  have HWF := hid hwf
  obtain ⟨u0, hu0⟩ : ∃ u, u = wAt l 0 := ⟨_, rfl⟩
  rw [← hu0] at h00 hP
  have hub := wAt_bd hwf 0
  rw [← hu0] at hub
  have H00 := hid h00
  clear hv hcs hn hwf hR hw hu0 h00
  obtain ⟨cc, cm, cr, cg⟩ := c
  simp only at hc0 hc1
  obtain ⟨n, rfl⟩ : ∃ n : Nat, cc = n := ⟨cc.toNat, by omega⟩
  go_enter Try.func33, Try.ntmps33
  have hB := Blk.new w [.int .i64 n, .int .i64 cm, .int .i64 cr, .int .i64 cg] 45
  have kB := hB.cell
  have hFF := (Fr.refl [] w).alloc (.cells #[.int .i64 n, .int .i64 cm, .int .i64 cr, .int .i64 cg] 45)
  go_wp2_with (first | (go_at_call 46; refine (HRt.out _).mono ?_; rintro e w2 ⟨rfl, hF2⟩; (replace hB := hB.kept hF2 (by simp)); (replace kB := hB.cell); (replace hFF := hFF.trans hF2)) | (go_at_call 47; refine (HS.out _).mono ?_; rintro e w3 ⟨rfl, hF2⟩; (replace hB := hB.kept hF2 (by simp)); (replace kB := hB.cell); (replace hFF := hFF.trans hF2); (have h01 := (hFF.cell (o := o) hbb (by simp)).trans H00.out)))
  have t0 := hFF.size
  have lB := hB.lt
  clear h01 kB
  go_loopw [6, 7, 8, 9] (fun v u nn i wr => ∃ (x : Int) (out : List Int), u = .int .u64 x ∧ (0 ≤ x ∧ x < 18446744073709551616) ∧ nn = .int .i64 out.length ∧ out.length ≤ n + 1 ∧ Hid (P = refGo ⟨n, cm, cr, cg⟩ l (n + 1 - out.length) x out) ∧ wr.ownsRow (w.heap.size + 1) 3 1 v out.length (i64s out) ∧ Blk wr w.heap.size 45 [.int .i64 n, .int .i64 cm, .int .i64 cr, .int .i64 cg] ∧ Fr [] w wr) (fun _ _ nn _ _ => n + 1 - (intOf nn).toNat)
  case atStart =>
    exact ⟨u0, [], rfl, hub, rfl, by simp, hid (by have := hP.out; simpa using this), World.ownsRow_nil _ _ _ _, hB, hFF⟩
  case round =>
    obtain ⟨x, out, rfl, hx, rfl, hle, hP, hown, hB, hFF⟩ := hrel
    replace hown := hid hown
    have kB := hB.cell
    by_cases hlt : out.length ≤ n
    · have hf : n + 1 - out.length = (n - out.length) + 1 := by omega
      replace hf := hid hf
      have hlt2 : (out.length : Int) ≤ (n : Int) := by omega
      by_cases c0 : x = 0
      · subst c0
        obtain ⟨a, ocap, rfl, hrd⟩ := (RdS.of_own hown.out).elim
        replace hrd := hid hrd
        have HI := hid (fun W => rIsCell_any 0 (by omega) (by omega) W)
        rw [show cellN 0 = -1 by decide] at HI
        by_cases c1 : out = []
        · subst c1
          have hz : ¬ (0 : Int) < (([] : List Int).length : Int) := by simp
          have e : P = none := by rw [hP.out, hf.out]; exact refGo_none (by simp) (by simp [isCell])
          subst e
          go_wp2_with (first | (go_at_call 59; refine (HI.out _).mono ?_; rintro e w4 ⟨rfl, rfl⟩))
          all_goals go_ret2
          all_goals exact ⟨⟨_, rfl, .inl ⟨rfl, rfl, none, 0, rfl⟩, fun b hb => by cases hb⟩, hFF⟩
        · have hz : (0 : Int) < (out.length : Int) := by have := List.length_pos_iff.2 c1; omega
          have e : P = some out := by rw [hP.out, hf.out]; exact refGo_nil c1
          subst e
          clear c1
          go_wp2_with (first | (go_at_call 59; refine (HI.out _).mono ?_; rintro e w4 ⟨rfl, rfl⟩))
          all_goals go_ret2
          exact ⟨⟨_, rfl, RdS.of_own hown.out, fun b hb => by have := (hown.out.lt b hb).1; omega⟩, hFF⟩
      · have g0 : (x == 0) = false := beq_eq_false_iff_ne.2 c0
        by_cases c2 : isCell x = true
        · have HI := hid (fun W => rIsCell_any x hx.1 hx.2 W)
          rw [cellN_yes c2] at HI
          have hx2 := (isCell_iff x).1 c2
          obtain ⟨q, hq⟩ : ∃ q : Nat, x / 2 = q := ⟨(x / 2).toNat, by omega⟩
          rw [hq] at HI
          replace hq := hid hq
          have hq0 : ¬ (q : Int) < 0 := by omega
          by_cases c3 : q < n
          · have hq3 : (q : Int) < (n : Int) := by omega
            obtain ⟨z, hz⟩ : ∃ z, z = (⟨n, cm, cr, cg⟩ : Cfg).cellP 1 q := ⟨_, rfl⟩
            have hzb := cellP_in HR.out 1 q (by omega) ⟨by omega, hq3⟩
            rw [← hz, ← HN.out] at hzb
            have hz2' := hzb.1
            have hz3' := hzb.2
            have HC1 := hid (fun W => rAtCell_any HR.out 1 q (by omega) (by omega) W)
            rw [← hz] at HC1
            have hP2 : P = refGo ⟨n, cm, cr, cg⟩ l (n - out.length) (wAt l z) (out ++ [(q : Int)]) := by
              rw [hP.out, hf.out, refGo_step c0 ⟨c2, by rw [hq.out]; exact hq3⟩, hq.out, hz]
            replace hP2 := hid hP2
            have hbz := hid (wAt_bd HWF.out z)
            have HOlt := hid (fun j (e : u6.ownBlock = some j) => hown.out.lt j e)
            have lS := hB.lt
            replace hz := hid hz
            clear hzb
            go_wp2_with (first | (go_at_call 59; refine (HI.out _).mono ?_; rintro e w4 ⟨rfl, rfl⟩) | (at_builtin; refine wpList_append_own _ rfl _ _ 55 rfl (w.heap.size + 1) 3 i0 (.int .i64 0) 1 8 Try.underlying55 hi hz0 hz1 hz2 rfl (by decide) _ _ _ rfl (hown.out.alloc _) ⟨wr.heap.size, 0, none⟩ 1 1 [.int .i64 q] rfl rfl (news_new _ _ _) (by simp [Value.oneCell']) (by simp only [maxLen]; omega) (by first | omega | (simp; omega)) (by simp; omega) ?_))
            all_goals
              intro v' w1 hown1 hg1 _
              have HO := hid hown1
              have HFF3 := hid ((hFF.alloc (.cells #[.int .i64 q] 3)).grown hg1 (fun j hj hj2 => by have := (HOlt.out j hj).1; omega))
              have HB3 := hid (blk_grown (hB.alloc (.cells #[.int .i64 q] 3)) hg1 (fun e => by have := (HOlt.out _ e).1; omega))
              clear hown1 hg1 kB hB hFF hown
              have kM3 := HB3.out.cell
              go_wp2_with (first | (go_at_call 71; refine (HC1.out _).mono ?_; rintro e w5 ⟨rfl, hF5⟩; (have hl5 := ((HFF3.out.trans hF5).cell (o := o + z.toNat) hbb (by simp)).trans ((HCS.out z.toNat (by simp; omega)).trans (u64s_get l z.toNat (by omega)))); (have hl6 : w5.cell? ⟨b, o + z.toNat, none⟩ = some (.int .u64 (wAt l z)) := by rw [hl5, wAt, if_pos ⟨hz2', hz3'⟩]); clear hl5))
              go_roundw
              case rel =>
                refine ⟨wAt l z, out ++ [(q : Int)], rfl, hbz.out, by simp, by simp; omega, ?_, ?_, HB3.out.kept hF5 (by simp), HFF3.out.trans hF5⟩
                · have e := hP2.out
                  have : n + 1 - (out ++ [(q : Int)]).length = n - out.length := by simp
                  rw [this]
                  exact hid e
                · have h1 := owns_kept0 HO.out hF5
                  rw [i64s_append, List.length_append]
                  exact h1
              case measure => first | exact (by omega : n + 1 - (out.length + 1) < n + 1 - out.length) | (simp [intOf]; omega)
          · have hq3 : ¬ (q : Int) < (n : Int) := by omega
            have e : P = none := by rw [hP.out, hf.out]; exact refGo_none (fun h => c0 h.1) (fun h => hq3 (by rw [← hq.out]; exact h.2))
            subst e
            go_wp2_with (first | (go_at_call 59; refine (HI.out _).mono ?_; rintro e w4 ⟨rfl, rfl⟩))
            all_goals go_ret2
            all_goals exact ⟨⟨_, rfl, .inl ⟨rfl, rfl, none, 0, rfl⟩, fun b hb => by cases hb⟩, hFF⟩
        · have c2 : isCell x = false := by simpa using c2
          have HI := hid (fun W => rIsCell_any x hx.1 hx.2 W)
          rw [cellN_no c2] at HI
          have e : P = none := by rw [hP.out, hf.out]; exact refGo_none (fun h => c0 h.1) (by simp [c2])
          subst e
          go_wp2_with (first | (go_at_call 59; refine (HI.out _).mono ?_; rintro e w4 ⟨rfl, rfl⟩))
          all_goals go_ret2
          all_goals exact ⟨⟨_, rfl, .inl ⟨rfl, rfl, none, 0, rfl⟩, fun b hb => by cases hb⟩, hFF⟩
    · have hlt2 : ¬ (out.length : Int) ≤ (n : Int) := by omega
      have e : P = none := by rw [hP.out, show n + 1 - out.length = 0 by omega]; rfl
      subst e
      go_wp2_with fail
      all_goals go_ret2
      all_goals exact ⟨⟨_, rfl, .inl ⟨rfl, rfl, none, 0, rfl⟩, fun b hb => by cases hb⟩, hFF⟩

theorem refList_any {w : World} {c : Cfg} (hR : c.Right) (v : Value) (l : List Int) (hv : RdS w v l.length (u64s l)) (hn : (l.length : Int) = c.words) (hwf : ∀ x, x ∈ l → 0 ≤ x ∧ x < 18446744073709551616) :
    Calls Try.prog 33 #[c.val, v] w fun e w' => (∃ u, e = .returned (.tuple #[u, .bool (refList c l).isSome]) ∧ RdS w' u ((refList c l).getD []).length (i64s ((refList c l).getD []))) ∧ Fr [] w w' := by
  refine (refList_own hR v l hv hn hwf).mono ?_
  rintro e w' ⟨⟨u, h1, h2, _⟩, hF⟩
  exact ⟨⟨u, h1, h2⟩, hF⟩

end Go.Proofs.Ytnhnbgkhbhgifaa
