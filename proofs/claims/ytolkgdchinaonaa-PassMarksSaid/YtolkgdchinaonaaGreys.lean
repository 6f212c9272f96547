/- pass.Greys, mudlarkref16.Greys. -/
import Derived.Test.YtolkgdchinaonaaPopListW
import Derived.Test.YtolkgdchinaonaaAtAll
import Derived.Test.YtolkgdchinaonaaRef03
namespace Go.Proofs.Ytolkgdchinaonaa
open Go.RowKit
set_option linter.unusedVariables false
set_option linter.unusedSimpArgs false

/-- The grey ones of the first k cells. -/
def greysTo (c : Cfg) (l : List Int) : Nat → List Int
  | 0 => []
  | k + 1 => greysTo c l k ++ (if wAt l (c.cellP 2 k) = 1 then [(k : Int)] else [])
theorem greysTo_le (c : Cfg) (l : List Int) (k : Nat) : (greysTo c l k).length ≤ k := by
  induction k with
  | zero => simp [greysTo]
  | succ k ih => simp only [greysTo, List.length_append]; split <;> simp <;> omega
theorem greysTo_y {c : Cfg} {l : List Int} {k : Nat} (h : wAt l (c.cellP 2 k) = 1) : greysTo c l (k + 1) = greysTo c l k ++ [(k : Int)] := by simp [greysTo, h]
theorem greysTo_n {c : Cfg} {l : List Int} {k : Nat} (h : ¬ wAt l (c.cellP 2 k) = 1) : greysTo c l (k + 1) = greysTo c l k := by simp [greysTo, h]
def IntsRes (out : List Int) (e : Ending) (w' : World) : Prop := ∃ u, e = .returned u ∧ RdS w' u out.length (i64s out)

set_option maxRecDepth 100000 in
set_option maxHeartbeats 4000000 in
theorem greys_any {w : World} {c : Cfg} (hR : c.Right) (v : Value) (l : List Int) (hv : RdS w v l.length (u64s l)) (hn : (l.length : Int) = c.words) :
    Calls Try.prog 142 #[c.val, v] w fun e w' => IntsRes (greysTo c l c.cells.toNat) e w' ∧ Fr [] w w' := by
  have hw := hR.words_pos
  have HP := hid (fun W => place_new c W true hR.right)
  have HS := hid (fun W => size_any hR W)
  have HC := hid (fun (i : Int) W => colour_any hR i W)
  obtain ⟨i0, hi, hz0, hz1, hz2⟩ := info_parts infoI1
  obtain ⟨b, o, cap, rfl, hbb, hcs⟩ : ∃ b o cap, v = .slice (some ⟨b, o, none⟩) l.length cap ∧ b < w.heap.size ∧ ∀ j, j < (u64s l).length → w.cell? ⟨b, o + j, none⟩ = (u64s l)[j]? := by
    obtain ⟨ua, uc, rfl, hu⟩ := hv.elim
    obtain ⟨b, o, rfl, h1, h2⟩ := hu (by omega)
    exact ⟨b, o, uc, rfl, h1, h2⟩
  have HCS := hid hcs
  rw [← hn] at HS
  have hne : ((l.length : Int) != (l.length : Int)) = false := by simp
  have hc0 := hR.c0
  have hc1 := hR.c1
  have HR := hid hR
  have HN := hid hn
  clear hv hcs hn hR hw
  obtain ⟨cc, cm, cr, cg⟩ := c
  simp only at hc0 hc1
  obtain ⟨n, rfl⟩ : ∃ n : Nat, cc = n := ⟨cc.toNat, by omega⟩
  simp only [Int.toNat_natCast]
  have Gle := hid (fun k => greysTo_le ⟨n, cm, cr, cg⟩ l k)
  have Gy := hid (fun (k : Nat) (h : wAt l ((⟨n, cm, cr, cg⟩ : Cfg).cellP 2 k) = 1) => greysTo_y h)
  have Gn := hid (fun (k : Nat) (h : ¬ wAt l ((⟨n, cm, cr, cg⟩ : Cfg).cellP 2 k) = 1) => greysTo_n h)
  have G0 : greysTo ⟨n, cm, cr, cg⟩ l 0 = [] := rfl
  replace G0 := hid G0
  obtain ⟨G, hG⟩ : ∃ G, G = greysTo ⟨n, cm, cr, cg⟩ l := ⟨_, rfl⟩
  simp only [← hG] at Gle Gy Gn G0 ⊢
  clear hG
  simp only [if_true] at HP
  go_enter Try.func142, Try.ntmps142
  have hB := Blk.new w [.int .i64 n, .int .i64 cm, .int .i64 cr, .int .i64 cg] 45
  have kB := hB.cell
  have hFF := (Fr.refl [] w).alloc (.cells #[.int .i64 n, .int .i64 cm, .int .i64 cr, .int .i64 cg] 45)
  go_wp2_with (first | (go_at_call 123; refine (HP.out _).mono ?_; rintro e w2 ⟨rfl, hF2⟩; (replace hB := hB.kept hF2 (by simp)); (replace kB := hB.cell); (replace hFF := hFF.trans hF2)) | (go_at_call 124; refine (HS.out _).mono ?_; rintro e w3 ⟨rfl, hF2⟩; (have hM0 := Blk.new w2 [.int .i64 n, .int .i64 cm, .int .i64 cr, .int .i64 cg] 68); (have lB := hB.lt); (replace hB := (hB.alloc (.cells #[.int .i64 n, .int .i64 cm, .int .i64 cr, .int .i64 cg] 68)).kept hF2 (by simp)); (have hM := hM0.kept hF2 (by simp)); clear hM0; (replace kB := hB.cell); (have kM := hM.cell); (replace hFF := (hFF.alloc (.cells #[.int .i64 n, .int .i64 cm, .int .i64 cr, .int .i64 cg] 68)).trans hF2)))
  obtain ⟨M, hMe⟩ : ∃ k, k = w2.heap.size := ⟨_, rfl⟩
  rw [← hMe] at hM lB ⊢
  obtain ⟨BA, hBA⟩ : ∃ k, k = M + 1 := ⟨_, rfl⟩
  have bA1 : M < BA := by omega
  have bA2 : BA ≤ M + 1 := by omega
  have lM := hM.lt
  clear hBA
  clear hMe kB kM
  go_loopw [7, 25] (fun v i wr => ∃ (k : Nat), k ≤ n ∧ i = .int .i64 k ∧ Hid (wr.ownsRow BA 3 1 v (G k).length (i64s (G k))) ∧ Blk wr w.heap.size 45 [.int .i64 n, .int .i64 cm, .int .i64 cr, .int .i64 cg] ∧ Blk wr M 68 [.int .i64 n, .int .i64 cm, .int .i64 cr, .int .i64 cg] ∧ Fr [] w wr ∧ BA ≤ wr.heap.size) (fun _ i _ => n - (intOf i).toNat)
  case atStart => exact ⟨0, by omega, rfl, hid (by rw [G0.out]; exact World.ownsRow_nil _ _ _ _), hB, hM, hFF, by omega⟩
  case round =>
    clear hB hM hFF
    obtain ⟨k, hk, rfl, hown, hB, hM, hFF, hBl⟩ := hrel
    have kM := hM.cell
    have kB := hB.cell
    by_cases hlt : k < n
    · have hkn : (k : Int) < (n : Int) := by omega
      obtain ⟨z, hz⟩ : ∃ z, z = (⟨n, cm, cr, cg⟩ : Cfg).cellP 2 k := ⟨_, rfl⟩
      have hzb := cellP_in HR.out 2 k (by omega) ⟨by omega, hkn⟩
      rw [← hz, ← HN.out] at hzb
      have hz2' := hzb.1
      have hz3' := hzb.2
      have HC1 := hid (fun W => HC.out k W)
      have Gy1 := hid (Gy.out k)
      have Gn1 := hid (Gn.out k)
      have Gl1 := Gle.out k
      rw [← hz] at HC1 Gy1 Gn1
      clear hz hzb
      by_cases g : wAt l z = 1
      · have g1 : (wAt l z == 1) = true := by simpa using g
        have e1 := hid (Gy1.out g)
        clear Gy1 Gn1
        replace g := hid g
        go_wp2_with (first | (go_at_call 136; refine (HC1.out _).mono ?_; rintro e w5 ⟨rfl, hF5⟩; (have hl5 := ((hFF.trans hF5).cell (o := o + z.toNat) hbb (by simp)).trans ((HCS.out z.toNat (by simp; omega)).trans (u64s_get l z.toNat (by omega)))); (have hl6 : w5.cell? ⟨b, o + z.toNat, none⟩ = some (.int .u64 (wAt l z)) := by rw [hl5, wAt, if_pos ⟨hz2', hz3'⟩]); clear hl5; (replace hown := hid (owns_kept0 hown.out hF5)); (replace hB := hB.kept hF5 (by simp)); (replace hM := hM.kept hF5 (by simp)); (replace kB := hB.cell); (replace kM := hM.cell); (replace hFF := hFF.trans hF5); (replace hBl := Nat.le_trans hBl hF5.size)) | (at_builtin; refine wpList_append_own _ rfl _ _ 55 rfl BA 3 i0 (.int .i64 0) 1 8 Try.underlying55 hi hz0 hz1 hz2 rfl (by decide) _ _ _ rfl (hown.out.alloc _) ⟨w5.heap.size, 0, none⟩ 1 1 [.int .i64 k] rfl rfl ?c1 ?c2 ?c3 ?c4 ?c5 ?_))
        case c1 => intro j u hu; exact news_new w5 [.int .i64 k] 3 j u hu
        case c2 => simp [Value.oneCell']
        case c3 => simp only [maxLen]; omega
        case c4 => first | omega | (simp; omega)
        case c5 => have := hFF.size; have := hF5.size; simp; omega
        intro v' w1 hown1 hg1 _
        have HOlt := fun j (e : _ = some j) => hown.out.lt j e
        have HFF3 := (hFF.alloc (.cells #[.int .i64 k] 3)).grown hg1 (fun j hj hj2 => by have := (HOlt j hj).1; omega)
        have HB3 := blk_grown (hB.alloc (.cells #[.int .i64 k] 3)) hg1 (fun e => by have := (HOlt _ e).1; omega)
        have HM3 := blk_grown (hM.alloc (.cells #[.int .i64 k] 3)) hg1 (fun e => by have := (HOlt _ e).1; omega)
        have hs1 := hg1.size
        simp only [World.size_alloc] at hs1
        go_wp2_with fail
        go_roundw
        case rel =>
          refine ⟨k + 1, by omega, by go_num, hid ?_, HB3, HM3, HFF3, by omega⟩
          rw [e1.out]
          simpa [i64s] using hown1
        case measure => simp [intOf]; omega
      · have g1 : (wAt l z == 1) = false := by simpa using g
        have e1 := hid (Gn1.out g)
        clear Gy1 Gn1
        replace g := hid g
        go_wp2_with (first | (go_at_call 136; refine (HC1.out _).mono ?_; rintro e w5 ⟨rfl, hF5⟩; (have hl5 := ((hFF.trans hF5).cell (o := o + z.toNat) hbb (by simp)).trans ((HCS.out z.toNat (by simp; omega)).trans (u64s_get l z.toNat (by omega)))); (have hl6 : w5.cell? ⟨b, o + z.toNat, none⟩ = some (.int .u64 (wAt l z)) := by rw [hl5, wAt, if_pos ⟨hz2', hz3'⟩]); clear hl5; (replace hown := hid (owns_kept0 hown.out hF5)); (replace hB := hB.kept hF5 (by simp)); (replace hM := hM.kept hF5 (by simp)); (replace kB := hB.cell); (replace kM := hM.cell); (replace hFF := hFF.trans hF5); (replace hBl := Nat.le_trans hBl hF5.size)))
        go_roundw
        case rel => exact ⟨k + 1, by omega, by go_num, hid (by rw [e1.out]; exact hown.out), hB, hM, hFF, by omega⟩
        case measure => simp [intOf]; omega
    · obtain rfl : k = n := by omega
      go_wp2_with fail
      go_ret
      exact ⟨⟨_, rfl, RdS.of_own hown.out⟩, hFF⟩

theorem greys_bad {w : World} (c : Cfg) (a : Option Addr) (m cap : Nat) (h : ¬ (c.Right ∧ (m : Int) = c.words)) (hm : m ≤ 35184372088832) :
    Calls Try.prog 142 #[c.val, .slice a m cap] w fun e w' => IntsRes [] e w' ∧ Fr [] w w' := by
  by_cases hR : c.Right
  · have HP := hid (fun W => place_new c W true hR.right)
    have HS := hid (fun W => size_any hR W)
    have hne : ((m : Int) != c.words) = true := by simpa using fun e => h ⟨hR, e⟩
    obtain ⟨z, hz⟩ : ∃ z, z = c.words := ⟨_, rfl⟩
    rw [← hz] at HS hne
    clear hz h hR
    obtain ⟨cc, cm, cr, cg⟩ := c
    simp only [if_true] at HP
    go_enter Try.func142, Try.ntmps142
    have hB := Blk.new w [.int .i64 cc, .int .i64 cm, .int .i64 cr, .int .i64 cg] 45
    have kB := hB.cell
    have hFF := (Fr.refl [] w).alloc (.cells #[.int .i64 cc, .int .i64 cm, .int .i64 cr, .int .i64 cg] 45)
    go_wp2_with (first | (go_at_call 123; refine (HP.out _).mono ?_; rintro e w2 ⟨rfl, hF2⟩; (replace hFF := hFF.trans hF2)) | (go_at_call 124; refine (HS.out _).mono ?_; rintro e w3 ⟨rfl, hF2⟩; (replace hFF := (hFF.alloc _).trans hF2)))
    go_ret
    exact ⟨⟨_, rfl, .inl ⟨rfl, rfl, none, 0, rfl⟩⟩, hFF⟩
  · have hr : c.right = false := by cases hh : c.right with | false => rfl | true => exact (hR ((Cfg.right_iff c).1 hh)).elim
    have HP := hid (fun W => place_new c W false hr)
    clear h hr hR
    obtain ⟨cc, cm, cr, cg⟩ := c
    simp only [Bool.false_eq_true, if_false] at HP
    go_enter Try.func142, Try.ntmps142
    have hFF := (Fr.refl [] w).alloc (.cells #[.int .i64 cc, .int .i64 cm, .int .i64 cr, .int .i64 cg] 45)
    go_wp2_with (first | (go_at_call 123; refine (HP.out _).mono ?_; rintro e w2 ⟨rfl, hF2⟩; (replace hFF := hFF.trans hF2)))
    go_ret
    exact ⟨⟨_, rfl, .inl ⟨rfl, rfl, none, 0, rfl⟩⟩, hFF.alloc _⟩

set_option maxRecDepth 100000 in
set_option maxHeartbeats 4000000 in
theorem rgreys_any {w : World} {c : Cfg} (hR : c.Right) (v : Value) (l : List Int) (hv : RdS w v l.length (u64s l)) (hn : (l.length : Int) = c.words) :
    Calls Try.prog 56 #[c.val, v] w fun e w' => IntsRes (greysTo c l c.cells.toNat) e w' ∧ Fr [] w w' := by
  have hw := hR.words_pos
  have HP := hid (fun W => rRight_any c W true hR.right)
  have HS := hid (fun W => rWords_any hR W)
  have HC := hid (fun (i : Int) W => rAtAll_any hR 6 2 i rfl (by omega) W)
  obtain ⟨i0, hi, hz0, hz1, hz2⟩ := info_parts infoI1
  obtain ⟨b, o, cap, rfl, hbb, hcs⟩ : ∃ b o cap, v = .slice (some ⟨b, o, none⟩) l.length cap ∧ b < w.heap.size ∧ ∀ j, j < (u64s l).length → w.cell? ⟨b, o + j, none⟩ = (u64s l)[j]? := by
    obtain ⟨ua, uc, rfl, hu⟩ := hv.elim
    obtain ⟨b, o, rfl, h1, h2⟩ := hu (by omega)
    exact ⟨b, o, uc, rfl, h1, h2⟩
  have HCS := hid hcs
  rw [← hn] at HS
  have hne : ((l.length : Int) != (l.length : Int)) = false := by simp
  have hc0 := hR.c0
  have hc1 := hR.c1
  have HR := hid hR
  have HN := hid hn
  clear hv hcs hn hR hw
  obtain ⟨cc, cm, cr, cg⟩ := c
  simp only at hc0 hc1
  obtain ⟨n, rfl⟩ : ∃ n : Nat, cc = n := ⟨cc.toNat, by omega⟩
  simp only [Int.toNat_natCast]
  have Gle := hid (fun k => greysTo_le ⟨n, cm, cr, cg⟩ l k)
  have Gy := hid (fun (k : Nat) (h : wAt l ((⟨n, cm, cr, cg⟩ : Cfg).cellP 2 k) = 1) => greysTo_y h)
  have Gn := hid (fun (k : Nat) (h : ¬ wAt l ((⟨n, cm, cr, cg⟩ : Cfg).cellP 2 k) = 1) => greysTo_n h)
  have G0 : greysTo ⟨n, cm, cr, cg⟩ l 0 = [] := rfl
  replace G0 := hid G0
  obtain ⟨G, hG⟩ : ∃ G, G = greysTo ⟨n, cm, cr, cg⟩ l := ⟨_, rfl⟩
  simp only [← hG] at Gle Gy Gn G0 ⊢
  clear hG
  go_enter Try.func56, Try.ntmps56
  have hB := Blk.new w [.int .i64 n, .int .i64 cm, .int .i64 cr, .int .i64 cg] 45
  have kB := hB.cell
  have hFF := (Fr.refl [] w).alloc (.cells #[.int .i64 n, .int .i64 cm, .int .i64 cr, .int .i64 cg] 45)
  go_wp2_with fail
  obtain ⟨BA, hBA⟩ : ∃ k, k = w.heap.size + 1 := ⟨_, rfl⟩
  have lB : w.heap.size < BA := by omega
  have bA2 : BA ≤ w.heap.size + 1 := by omega
  clear kB hBA
  go_loopw [5, 6] (fun v i wr => ∃ (k : Nat), k ≤ n ∧ i = .int .i64 k ∧ Hid (wr.ownsRow BA 3 1 v (G k).length (i64s (G k))) ∧ Blk wr w.heap.size 45 [.int .i64 n, .int .i64 cm, .int .i64 cr, .int .i64 cg] ∧ Fr [] w wr ∧ BA ≤ wr.heap.size) (fun _ i _ => n - (intOf i).toNat)
  case atStart => exact ⟨0, by omega, rfl, hid (by rw [G0.out]; exact World.ownsRow_nil _ _ _ _), hB, hFF, by simp; omega⟩
  case round =>
    clear hB hFF
    obtain ⟨k, hk, rfl, hown, hB, hFF, hBl⟩ := hrel
    have hwn : ((l.length : Int) == (l.length : Int)) = true := by simp
    have kB := hB.cell
    by_cases hlt : k < n
    · have hkn : (k : Int) < (n : Int) := by omega
      obtain ⟨z, hz⟩ : ∃ z, z = (⟨n, cm, cr, cg⟩ : Cfg).cellP 2 k := ⟨_, rfl⟩
      have hzb := cellP_in HR.out 2 k (by omega) ⟨by omega, hkn⟩
      rw [← hz, ← HN.out] at hzb
      have hz2' := hzb.1
      have hz3' := hzb.2
      have HC1 := hid (fun W => HC.out k W)
      have Gy1 := hid (Gy.out k)
      have Gn1 := hid (Gn.out k)
      have Gl1 := Gle.out k
      rw [← hz] at HC1 Gy1 Gn1
      clear hz hzb
      by_cases g : wAt l z = 1
      · have g1 : (wAt l z == 1) = true := by simpa using g
        have e1 := hid (Gy1.out g)
        clear Gy1 Gn1
        replace g := hid g
        go_wp2_with (first | (go_at_call 58; refine (HC1.out _).mono ?_; rintro e w5 ⟨rfl, hF5⟩; (have hl5 := ((hFF.trans hF5).cell (o := o + z.toNat) hbb (by simp)).trans ((HCS.out z.toNat (by simp; omega)).trans (u64s_get l z.toNat (by omega)))); (have hl6 : w5.cell? ⟨b, o + z.toNat, none⟩ = some (.int .u64 (wAt l z)) := by rw [hl5, wAt, if_pos ⟨hz2', hz3'⟩]); clear hl5; (replace hown := hid (owns_kept0 hown.out hF5)); (replace hB := hB.kept hF5 (by simp)); (replace kB := hB.cell); (replace hFF := hFF.trans hF5); (replace hBl := Nat.le_trans hBl hF5.size)) | (go_at_call 75; refine (HP.out _).mono ?_; rintro e w6 ⟨rfl, hF5⟩; (replace hown := hid (owns_kept0 hown.out hF5)); (replace hB := hB.kept hF5 (by simp)); (replace kB := hB.cell); (replace hFF := hFF.trans hF5); (replace hBl := Nat.le_trans hBl hF5.size)) | (go_at_call 76; refine (HS.out _).mono ?_; rintro e w7 ⟨rfl, hF5⟩; (replace hown := hid (owns_kept0 hown.out hF5)); (replace hB := hB.kept hF5 (by simp)); (replace kB := hB.cell); (replace hFF := hFF.trans hF5); (replace hBl := Nat.le_trans hBl hF5.size)) | (at_builtin; refine wpList_append_own _ rfl _ _ 55 rfl BA 3 i0 (.int .i64 0) 1 8 Try.underlying55 hi hz0 hz1 hz2 rfl (by decide) _ _ _ rfl (hown.out.alloc _) ⟨w5.heap.size, 0, none⟩ 1 1 [.int .i64 k] rfl rfl ?c1 ?c2 ?c3 ?c4 ?c5 ?_))
        case c1 => intro j u hu; exact news_new w5 [.int .i64 k] 3 j u hu
        case c2 => simp [Value.oneCell']
        case c3 => simp only [maxLen]; omega
        case c4 => first | omega | (simp; omega)
        case c5 => have := hFF.size; have := hF5.size; simp; omega
        intro v' w1 hown1 hg1 _
        have HOlt := fun j (e : _ = some j) => hown.out.lt j e
        have HFF3 := (hFF.alloc (.cells #[.int .i64 k] 3)).grown hg1 (fun j hj hj2 => by have := (HOlt j hj).1; omega)
        have HB3 := blk_grown (hB.alloc (.cells #[.int .i64 k] 3)) hg1 (fun e => by have := (HOlt _ e).1; omega)
        have hs1 := hg1.size
        simp only [World.size_alloc] at hs1
        go_wp2_with fail
        go_roundw
        case rel =>
          refine ⟨k + 1, by omega, by go_num, hid ?_, HB3, HFF3, by omega⟩
          rw [e1.out]
          simpa [i64s] using hown1
        case measure => simp [intOf]; omega
      · have g1 : (wAt l z == 1) = false := by simpa using g
        have e1 := hid (Gn1.out g)
        clear Gy1 Gn1
        replace g := hid g
        go_wp2_with (first | (go_at_call 58; refine (HC1.out _).mono ?_; rintro e w5 ⟨rfl, hF5⟩; (have hl5 := ((hFF.trans hF5).cell (o := o + z.toNat) hbb (by simp)).trans ((HCS.out z.toNat (by simp; omega)).trans (u64s_get l z.toNat (by omega)))); (have hl6 : w5.cell? ⟨b, o + z.toNat, none⟩ = some (.int .u64 (wAt l z)) := by rw [hl5, wAt, if_pos ⟨hz2', hz3'⟩]); clear hl5; (replace hown := hid (owns_kept0 hown.out hF5)); (replace hB := hB.kept hF5 (by simp)); (replace kB := hB.cell); (replace hFF := hFF.trans hF5); (replace hBl := Nat.le_trans hBl hF5.size)) | (go_at_call 75; refine (HP.out _).mono ?_; rintro e w6 ⟨rfl, hF5⟩; (replace hown := hid (owns_kept0 hown.out hF5)); (replace hB := hB.kept hF5 (by simp)); (replace kB := hB.cell); (replace hFF := hFF.trans hF5); (replace hBl := Nat.le_trans hBl hF5.size)) | (go_at_call 76; refine (HS.out _).mono ?_; rintro e w7 ⟨rfl, hF5⟩; (replace hown := hid (owns_kept0 hown.out hF5)); (replace hB := hB.kept hF5 (by simp)); (replace kB := hB.cell); (replace hFF := hFF.trans hF5); (replace hBl := Nat.le_trans hBl hF5.size)))
        go_roundw
        case rel => exact ⟨k + 1, by omega, by go_num, hid (by rw [e1.out]; exact hown.out), hB, hFF, by omega⟩
        case measure => simp [intOf]; omega
    · obtain rfl : k = n := by omega
      go_wp2_with (first | (go_at_call 75; refine (HP.out _).mono ?_; rintro e w6 ⟨rfl, hF5⟩; (replace hown := hid (owns_kept0 hown.out hF5)); (replace hB := hB.kept hF5 (by simp)); (replace kB := hB.cell); (replace hFF := hFF.trans hF5); (replace hBl := Nat.le_trans hBl hF5.size)) | (go_at_call 76; refine (HS.out _).mono ?_; rintro e w7 ⟨rfl, hF5⟩; (replace hown := hid (owns_kept0 hown.out hF5)); (replace hB := hB.kept hF5 (by simp)); (replace kB := hB.cell); (replace hFF := hFF.trans hF5); (replace hBl := Nat.le_trans hBl hF5.size)))
      go_ret
      exact ⟨⟨_, rfl, RdS.of_own hown.out⟩, hFF⟩

theorem rgreys_bad {w : World} (c : Cfg) (a : Option Addr) (m cap : Nat) (h : ¬ (c.Right ∧ (m : Int) = c.words)) (hm : m ≤ 35184372088832) :
    Calls Try.prog 56 #[c.val, .slice a m cap] w fun e w' => IntsRes [] e w' ∧ Fr [] w w' := by
  by_cases hR : c.Right
  · have HP := hid (fun W => rRight_any c W true hR.right)
    have HS := hid (fun W => rWords_any hR W)
    have hne : ((m : Int) == c.words) = false := by simpa using fun e => h ⟨hR, e⟩
    obtain ⟨z, hz⟩ : ∃ z, z = c.words := ⟨_, rfl⟩
    rw [← hz] at HS hne
    clear hz h hR
    obtain ⟨cc, cm, cr, cg⟩ := c
    go_enter Try.func56, Try.ntmps56
    have hB := Blk.new w [.int .i64 cc, .int .i64 cm, .int .i64 cr, .int .i64 cg] 45
    have kB := hB.cell
    have hFF := (Fr.refl [] w).alloc (.cells #[.int .i64 cc, .int .i64 cm, .int .i64 cr, .int .i64 cg] 45)
    go_wp2_with fail
    refine wp_loop_rounds 1 ?_
    rw [rounds_succ]
    go_wp2_with (first | (go_at_call 75; refine (HP.out _).mono ?_; rintro e w2 ⟨rfl, hF2⟩; (replace hB := hB.kept hF2 (by simp)); (replace kB := hB.cell); (replace hFF := hFF.trans hF2)) | (go_at_call 76; refine (HS.out _).mono ?_; rintro e w3 ⟨rfl, hF2⟩; (replace hFF := hFF.trans hF2)))
    go_ret
    exact ⟨⟨_, rfl, .inl ⟨rfl, rfl, none, 0, rfl⟩⟩, hFF⟩
  · have hr : c.right = false := by cases hh : c.right with | false => rfl | true => exact (hR ((Cfg.right_iff c).1 hh)).elim
    have HP := hid (fun W => rRight_any c W false hr)
    clear h hr hR
    obtain ⟨cc, cm, cr, cg⟩ := c
    go_enter Try.func56, Try.ntmps56
    have hB := Blk.new w [.int .i64 cc, .int .i64 cm, .int .i64 cr, .int .i64 cg] 45
    have kB := hB.cell
    have hFF := (Fr.refl [] w).alloc (.cells #[.int .i64 cc, .int .i64 cm, .int .i64 cr, .int .i64 cg] 45)
    go_wp2_with fail
    refine wp_loop_rounds 1 ?_
    rw [rounds_succ]
    go_wp2_with (first | (go_at_call 75; refine (HP.out _).mono ?_; rintro e w2 ⟨rfl, hF2⟩; (replace hFF := hFF.trans hF2)))
    go_ret
    exact ⟨⟨_, rfl, .inl ⟨rfl, rfl, none, 0, rfl⟩⟩, hFF⟩


end Go.Proofs.Ytolkgdchinaonaa
