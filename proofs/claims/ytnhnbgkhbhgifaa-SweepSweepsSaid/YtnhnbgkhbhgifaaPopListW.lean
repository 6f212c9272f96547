/- pop.List: the walk. -/
import Derived.Test.YtnhnbgkhbhgifaaPopL
namespace Go.Proofs.Ytnhnbgkhbhgifaa
open Go.RowKit
set_option linter.unusedVariables false
set_option linter.unusedSimpArgs false

def sliceLen : Value → Nat
  | .slice _ n _ => n
  | _ => 0
theorem Blk.congr' {w : World} {b : Nat} {t : TypeId} {cs ds : List Value} (h : Blk w b t cs) (e : cs = ds) : Blk w b t ds := e ▸ h
theorem owns_kept0 {w w' : World} {base : Nat} {e : TypeId} {sz : Nat} {v : Value} {n : Nat} {cs : List Value} (h : w.ownsRow base e sz v n cs) (f : Fr [] w w') : w'.ownsRow base e sz v n cs := by
  obtain ⟨hl, ⟨rfl, rfl⟩ | ⟨g, cap, cur, rfl, hbg, hg, hr⟩⟩ := h
  · exact ⟨hl, .inl ⟨rfl, rfl⟩⟩
  · exact ⟨hl, .inr ⟨g, cap, cur, rfl, hbg, (f.block g (lt_of_block hg) (by simp)).trans hg, hr⟩⟩
theorem sliceLen_own {w : World} {base n : Nat} {T : TypeId} {v : Value} {cs : List Value} (h : w.ownsRow base T 1 v n cs) : sliceLen v = n := by
  obtain ⟨a, cap, rfl, _⟩ := (RdS.of_own h).elim
  rfl

def capOk (B : Nat) (u : Value) : Prop := (∃ a n cap, u = .slice a n cap ∧ n ≤ cap) ∧ ∀ b, u.ownBlock = some b → B ≤ b
theorem capOk_nil {B : Nat} : capOk B (.slice none 0 0) := ⟨⟨_, _, _, rfl, Nat.le_refl _⟩, by simp [Value.ownBlock]⟩
theorem capOk_own {w : World} {base n B : Nat} {T : TypeId} {v : Value} {cs : List Value} (h : w.ownsRow base T 1 v n cs) (hB : B ≤ base) : capOk B v := by
  obtain ⟨_, ⟨rfl, rfl⟩ | ⟨g, cap, cur, rfl, hbg, hg, hnc, hcm, hcs, ht⟩⟩ := h
  · exact capOk_nil
  · exact ⟨⟨_, _, _, rfl, hnc⟩, by intro b hb; have : g = b := Option.some.inj hb; omega⟩

set_option maxRecDepth 100000 in
set_option maxHeartbeats 4000000 in
theorem popList_own {w : World} {c : Cfg} (hR : c.Right) (v : Value) (l : List Int) (hv : RdS w v l.length (u64s l)) (hn : (l.length : Int) = c.words) (hwf : ∀ x, x ∈ l → 0 ≤ x ∧ x < 18446744073709551616) :
    Calls Try.prog 120 #[c.val, v] w fun e w' => (∃ u, e = .returned (.tuple #[u, .bool (popList c l).isSome]) ∧ RdS w' u ((popList c l).getD []).length (i64s ((popList c l).getD [])) ∧ capOk w.heap.size u) ∧ Fr [] w w' := by
  have hw := hR.words_pos
  have HP := hid (fun W => place_new c W true hR.right)
  have HS := hid (fun W => size_any hR W)
  have HC := hid (fun i W => cdr_any hR i W)
  obtain ⟨i0, hi, hz0, hz1, hz2⟩ := info_parts infoI1
  obtain ⟨b, o, cap, rfl, hbb, hcs⟩ : ∃ b o cap, v = .slice (some ⟨b, o, none⟩) l.length cap ∧ b < w.heap.size ∧ ∀ j, j < (u64s l).length → w.cell? ⟨b, o + j, none⟩ = (u64s l)[j]? := by
    obtain ⟨ua, uc, rfl, hu⟩ := hv.elim
    obtain ⟨b, o, rfl, h1, h2⟩ := hu (by omega)
    exact ⟨b, o, uc, rfl, h1, h2⟩
  have hl0 : (0 : Int) < (l.length : Int) := by omega
  have h00 : w.cell? ⟨b, o, none⟩ = some (.int .u64 (wAt l 0)) := by
    have := (hcs 0 (by simp; omega)).trans (u64s_get l 0 (by omega))
    rw [Nat.add_zero] at this
    rw [wAt, if_pos ⟨by omega, hl0⟩]
    exact this
  have HCS := hid hcs
  rw [← hn] at HS
  have hne : ((l.length : Int) != (l.length : Int)) = false := by simp
  obtain ⟨P, hP⟩ : ∃ P, P = popList c l := ⟨_, rfl⟩
  rw [← hP]
  unfold popList at hP
  replace hP := hid hP
  have hc0 := hR.c0
  have hc1 := hR.c1
  have HR := hid hR
  have HN := hid hn
  have HWF := hid hwf
  obtain ⟨u0, hu0⟩ : ∃ u, u = wAt l 0 := ⟨_, rfl⟩
  rw [← hu0] at h00 hP
  have hub := wAt_bd hwf 0
  rw [← hu0] at hub
  have H00 := hid h00
  clear hv hcs hn hwf hR hw hu0 h00
  obtain ⟨cc, cm, cr, cg⟩ := c
  simp only at hc0 hc1
  obtain ⟨n, rfl⟩ : ∃ n : Nat, cc = n := ⟨cc.toNat, by omega⟩
  have hmk := fun W => mkB W n (by omega)
  simp only [if_true] at HP
  go_enter Try.func120, Try.ntmps120
  have hB := Blk.new w [.int .i64 n, .int .i64 cm, .int .i64 cr, .int .i64 cg] 45
  have kB := hB.cell
  have hFF := (Fr.refl [] w).alloc (.cells #[.int .i64 n, .int .i64 cm, .int .i64 cr, .int .i64 cg] 45)
  go_wp2_with fail
  go_step3
  go_wp2_with (first | (go_at_call 98; refine (HP.out _).mono ?_; rintro e w2 ⟨rfl, hF2⟩; (replace hB := hB.kept hF2 (by simp)); (replace kB := hB.cell); (replace hFF := hFF.trans hF2)) | (go_at_call 99; refine (HS.out _).mono ?_; rintro e w3 ⟨rfl, hF2⟩; (replace hB := (hB.alloc (.cells #[.int .i64 n, .int .i64 cm, .int .i64 cr, .int .i64 cg] 73)).kept hF2 (by simp)); (replace kB := hB.cell); (have hM := (Blk.new w2 [.int .i64 n, .int .i64 cm, .int .i64 cr, .int .i64 cg] 73).kept hF2 (by simp)); (have kM := hM.cell); (replace hFF := (hFF.alloc _).trans hF2); (have h01 := ((hFF.alloc (.cells (seenOf n []).toArray 4)).cell (o := o) hbb (by simp)).trans H00.out)))
  go_step3
  go_wp2_with fail
  obtain ⟨SB, hSB⟩ : ∃ k, k = w3.heap.size := ⟨_, rfl⟩
  have hS := Blk.new w3 (seenOf n []) 4
  have lM := hM.lt
  have lB := hB.lt
  replace hB := hB.alloc (.cells (seenOf n []).toArray 4)
  replace hM := hM.alloc (.cells (seenOf n []).toArray 4)
  replace hFF := hFF.alloc (.cells (seenOf n []).toArray 4)
  have t0 := hFF.size
  simp only [World.size_alloc] at t0
  rw [← hSB] at hS lM lB t0 ⊢
  obtain ⟨M, hMe⟩ : ∃ k, k = w2.heap.size := ⟨_, rfl⟩
  rw [← hMe] at hM lM ⊢
  have d1 : w.heap.size ≠ SB := by omega
  have d2 : M ≠ SB := by omega
  clear hSB hMe kB kM h01 hmk
  go_loopw [9, 10, 11, 12] (fun v u i cb wr => ∃ (x : Int) (out : List Int), u = .int .u64 x ∧ (0 ≤ x ∧ x < 18446744073709551616) ∧ sliceLen v = out.length ∧ Hid (out.Nodup ∧ ∀ y, y ∈ out → 0 ≤ y ∧ y < n) ∧ Hid (P = popGo ⟨n, cm, cr, cg⟩ l (n + 1 - out.length) x out) ∧ wr.ownsRow (SB + 1) 3 1 v out.length (i64s out) ∧ Blk wr SB 4 (seenOf n out) ∧ Blk wr w.heap.size 45 [.int .i64 n, .int .i64 cm, .int .i64 cr, .int .i64 cg] ∧ Blk wr M 73 [.int .i64 n, .int .i64 cm, .int .i64 cr, .int .i64 cg] ∧ Fr [] w wr) (fun v _ _ _ _ => n + 1 - sliceLen v)
  case atStart =>
    exact ⟨u0, [], rfl, hub, rfl, hid ⟨List.nodup_nil, by simp⟩, hid (by have := hP.out; simpa using this), World.ownsRow_nil _ _ _ _, hS, hB, hM, hFF⟩
  case round =>
    obtain ⟨x, out, rfl, hx, hsl, hnd, hP, hown, hS, hB, hM, hFF⟩ := hrel
    have hle : out.length ≤ n := nodup_bd hnd.out.1 hnd.out.2
    have hf : n + 1 - out.length = (n - out.length) + 1 := by omega
    replace hf := hid hf
    replace hown := hid hown
    have kB := hB.cell
    have kM := hM.cell
    by_cases c0 : x = 0
    · subst c0
      obtain ⟨a, ocap, rfl, hrd⟩ := (RdS.of_own hown.out).elim
      replace hrd := hid hrd
      have HI := hid (fun W => isCell_any 0 (by omega) (by omega) W)
      rw [show isCell 0 = false by decide] at HI
      simp only [Bool.false_eq_true, if_false] at HI
      by_cases c1 : out = []
      · subst c1
        have hz : ¬ (0 : Int) < (([] : List Int).length : Int) := by simp
        have e : P = none := by rw [hP.out, hf.out]; exact popGo_none (by simp) (by simp [isCell])
        subst e
        go_wp2_with (first | (go_at_call 114; refine (HI.out _).mono ?_; rintro e w4 ⟨rfl, rfl⟩))
        rw [Exit.noGoto_ret]
        go_ret2
        exact ⟨⟨_, rfl, .inl ⟨rfl, rfl, none, 0, rfl⟩, capOk_nil⟩, hFF⟩
      · have hz : (0 : Int) < (out.length : Int) := by have := List.length_pos_iff.2 c1; omega
        have e : P = some out := by rw [hP.out, hf.out]; exact popGo_nil c1
        subst e
        clear c1
        go_wp2_with (first | (go_at_call 114; refine (HI.out _).mono ?_; rintro e w4 ⟨rfl, rfl⟩))
        rw [Exit.noGoto_ret]
        go_ret2
        exact ⟨⟨_, rfl, RdS.of_own hown.out, capOk_own hown.out (by omega)⟩, hFF⟩
    · have g0 : (x == 0) = false := beq_eq_false_iff_ne.2 c0
      by_cases c2 : isCell x = true
      · have HI := hid (fun W => isCell_any x hx.1 hx.2 W)
        rw [c2] at HI
        simp only [if_true] at HI
        have hx2 := (isCell_iff x).1 c2
        obtain ⟨q, hq⟩ : ∃ q : Nat, x / 2 = q := ⟨(x / 2).toNat, by omega⟩
        rw [hq] at HI
        replace hq := hid hq
        by_cases c3 : q < n
        · have kS : wr.cell? ⟨SB, q, none⟩ = some (.bool (decide ((q : Int) ∈ out))) := (hS.cell q).trans (seenOf_get n out q c3)
          have fS := hS.free q
          have hq3 : (q : Int) < (n : Int) := by omega
          by_cases c4 : (q : Int) ∈ out
          · rw [decide_eq_true c4] at kS
            have e : P = none := by rw [hP.out, hf.out]; exact popGo_none (fun h => c0 h.1) (fun h => h.2.2 (by rw [hq.out]; exact c4))
            subst e
            go_wp2_with (first | (go_at_call 114; refine (HI.out _).mono ?_; rintro e w4 ⟨rfl, rfl⟩))
            rw [Exit.noGoto_ret]
            go_ret2
            exact ⟨⟨_, rfl, .inl ⟨rfl, rfl, none, 0, rfl⟩, capOk_nil⟩, hFF⟩
          · rw [decide_eq_false c4] at kS
            have lS := hS.lt
            obtain ⟨z, hz⟩ : ∃ z, z = (⟨n, cm, cr, cg⟩ : Cfg).cellP 1 q := ⟨_, rfl⟩
            have hzb := cellP_in HR.out 1 q (by omega) ⟨by omega, hq3⟩
            rw [← hz, ← HN.out] at hzb
            have hz2' := hzb.1
            have hz3' := hzb.2
            have HC1 := hid (fun W => HC.out q W)
            rw [← hz] at HC1
            have hP2 : P = popGo ⟨n, cm, cr, cg⟩ l (n - out.length) (wAt l z) (out ++ [(q : Int)]) := by
              rw [hP.out, hf.out, popGo_step c0 ⟨c2, by rw [hq.out]; exact hq3, by rw [hq.out]; exact c4⟩, hq.out, hz]
            replace hP2 := hid hP2
            have hbz := hid (wAt_bd HWF.out z)
            have HOlt := hid (fun j (e : u9.ownBlock = some j) => hown.out.lt j e)
            have hown2 := hid (ownsRow_setCell_below hown.out (a := ⟨SB, q, none⟩) (Nat.lt_succ_self _) (.bool true))
            have hS2 := (hS.set q (.bool true)).congr' (seenOf_set n out q c3)
            have hB2 := hB.other (p := ⟨SB, q, none⟩) d1 (.bool true)
            have hM2 := hM.other (p := ⟨SB, q, none⟩) d2 (.bool true)
            have hFF2 := hFF.setNew (p := ⟨SB, q, none⟩) (by simp only; omega) (.bool true)
            have hnd2 : (out ++ [(q : Int)]).Nodup ∧ ∀ y, y ∈ out ++ [(q : Int)] → 0 ≤ y ∧ y < n := by
              refine ⟨?_, ?_⟩
              · rw [List.nodup_append]
                exact ⟨hnd.out.1, by simp, by intro a ha b hb; simp at hb; subst hb; exact fun e => c4 (e ▸ ha)⟩
              · intro y hy
                rcases List.mem_append.1 hy with h | h
                · exact hnd.out.2 y h
                · simp at h; omega
            have hle2 : out.length + 1 ≤ n := by have := nodup_bd hnd2.1 hnd2.2; simpa using this
            replace hnd2 := hid hnd2
            replace hz := hid hz
            clear hzb c4
            go_wp2_with (first | (go_at_call 114; refine (HI.out _).mono ?_; rintro e w4 ⟨rfl, rfl⟩) | (at_builtin; refine wpList_append_own _ rfl _ _ 55 rfl (SB + 1) 3 i0 (.int .i64 0) 1 8 Try.underlying55 hi hz0 hz1 hz2 rfl (by decide) _ _ _ rfl (hown2.out.alloc _) ⟨wr.heap.size, 0, none⟩ 1 1 [.int .i64 q] rfl rfl ?c1 ?c2 ?c3 ?c4 ?c5 ?_))
            case c1 => intro j u hu; have h := news_new (wr.setCell ⟨SB, q, none⟩ (.bool true)) [.int .i64 q] 3 j u hu; rw [World.size_setCell] at h; exact h
            case c2 => simp [Value.oneCell']
            case c3 => simp only [maxLen]; omega
            case c4 => first | omega | (simp; omega)
            case c5 => simp; omega
            intro v' w1 hown1 hg1 _
            have HO := hid hown1
            have HFF3 := hid ((hFF2.alloc (.cells #[.int .i64 q] 3)).grown hg1 (fun j hj hj2 => by have := (HOlt.out j hj).1; omega))
            have HS3 := hid (blk_grown (hS2.alloc (.cells #[.int .i64 q] 3)) hg1 (fun e => by have := (HOlt.out _ e).1; omega))
            have HB3 := hid (blk_grown (hB2.alloc (.cells #[.int .i64 q] 3)) hg1 (fun e => by have := (HOlt.out _ e).1; omega))
            have HM3 := hid (blk_grown (hM2.alloc (.cells #[.int .i64 q] 3)) hg1 (fun e => by have := (HOlt.out _ e).1; omega))
            clear hown1 hg1 hown2 hS2 hB2 hM2 hFF2 kS fS kB kM hS hB hM hFF hown
            have kM3 := HM3.out.cell
            go_wp2_with (first | (go_at_call 104; refine (HC1.out _).mono ?_; rintro e w5 ⟨rfl, hF5⟩; (have hl5 := ((HFF3.out.trans hF5).cell (o := o + z.toNat) hbb (by simp)).trans ((HCS.out z.toNat (by simp; omega)).trans (u64s_get l z.toNat (by omega)))); (have hl6 : w5.cell? ⟨b, o + z.toNat, none⟩ = some (.int .u64 (wAt l z)) := by rw [hl5, wAt, if_pos ⟨hz2', hz3'⟩]); clear hl5))
            go_roundw
            case rel =>
              refine ⟨wAt l z, out ++ [(q : Int)], rfl, hbz.out, ?_, hnd2, ?_, ?_, HS3.out.kept hF5 (by simp), HB3.out.kept hF5 (by simp), HM3.out.kept hF5 (by simp), HFF3.out.trans hF5⟩
              · rw [sliceLen_own HO.out]; simp
              · have e := hP2.out
                have : n + 1 - (out ++ [(q : Int)]).length = n - out.length := by simp
                rw [this]
                exact hid e
              · have h1 := owns_kept0 HO.out hF5
                rw [i64s_append, List.length_append]
                exact h1
            case measure =>
              have h2 := sliceLen_own HO.out
              rw [← hsl] at hle2
              exact (by rw [h2, hsl]; omega : n + 1 - sliceLen v' < n + 1 - sliceLen u9)

        · have hq3 : ¬ (q : Int) < (n : Int) := by omega
          have e : P = none := by rw [hP.out, hf.out]; exact popGo_none (fun h => c0 h.1) (fun h => hq3 (by rw [← hq.out]; exact h.2.1))
          subst e
          go_wp2_with (first | (go_at_call 114; refine (HI.out _).mono ?_; rintro e w4 ⟨rfl, rfl⟩))
          rw [Exit.noGoto_ret]
          go_ret2
          exact ⟨⟨_, rfl, .inl ⟨rfl, rfl, none, 0, rfl⟩, capOk_nil⟩, hFF⟩
      · have c2 : isCell x = false := by simpa using c2
        have HI := hid (fun W => isCell_any x hx.1 hx.2 W)
        rw [c2] at HI
        simp only [Bool.false_eq_true, if_false] at HI
        have e : P = none := by rw [hP.out, hf.out]; exact popGo_none (fun h => c0 h.1) (by simp [c2])
        subst e
        go_wp2_with (first | (go_at_call 114; refine (HI.out _).mono ?_; rintro e w4 ⟨rfl, rfl⟩))
        rw [Exit.noGoto_ret]
        go_ret2
        exact ⟨⟨_, rfl, .inl ⟨rfl, rfl, none, 0, rfl⟩, capOk_nil⟩, hFF⟩

theorem popList_any {w : World} {c : Cfg} (hR : c.Right) (v : Value) (l : List Int) (hv : RdS w v l.length (u64s l)) (hn : (l.length : Int) = c.words) (hwf : ∀ x, x ∈ l → 0 ≤ x ∧ x < 18446744073709551616) :
    Calls Try.prog 120 #[c.val, v] w fun e w' => (∃ u, e = .returned (.tuple #[u, .bool (popList c l).isSome]) ∧ RdS w' u ((popList c l).getD []).length (i64s ((popList c l).getD []))) ∧ Fr [] w w' := by
  refine (popList_own hR v l hv hn hwf).mono ?_
  rintro e w' ⟨⟨u, h1, h2, _⟩, h3⟩
  exact ⟨⟨u, h1, h2⟩, h3⟩

end Go.Proofs.Ytnhnbgkhbhgifaa
