/- hand.From, hand.New, hand.Field, hand.Clear, place.First. -/
import Derived.Test.YtnhnbgkhbhgifaaPlain
import Derived.Test.YtnhnbgkhbhgifaaHand
import Derived.Test.YtnhnbgkhbhgifaaArenaNew
namespace Go.Proofs.Ytnhnbgkhbhgifaa
open Go.RowKit
set_option linter.unusedVariables false
set_option linter.unusedSimpArgs false

theorem from_bad {w : World} (c : Cfg) (hc : c.right = false) (v : Value) :
    Calls Try.prog 27 #[c.val, v] w fun e w' => e = .returned (.tuple #[.pointer none, .int .i64 2]) ∧ Fr [] w w' := by
  have HC := hid (fun W => place_new c W false hc)
  clear hc
  obtain ⟨cc, cm, cr, cg⟩ := c
  go_enter Try.func27, Try.ntmps27
  go_wp2_with fail
  refine (HC.out _).mono ?_
  rintro e w' ⟨rfl, hF⟩
  go_wp2
  go_ret2
  exact ⟨rfl, ((((Fr.refl _ _).alloc _).trans hF).alloc _)⟩

theorem from_len {w : World} {c : Cfg} (hR : c.Right) (a : Option Addr) (n cap : Nat) (hn : (n : Int) ≠ c.words) (hn2 : n ≤ 140737488355328) :
    Calls Try.prog 27 #[c.val, .slice a n cap] w fun e w' => e = .returned (.tuple #[.pointer none, .int .i64 1]) ∧ Fr [] w w' := by
  have HC := hid (fun W => place_new c W true hR.right)
  have HS := hid (fun W => size_any hR W)
  have hw := hR.words_pos
  obtain ⟨z, hz⟩ : ∃ z, z = c.words := ⟨_, rfl⟩
  rw [← hz] at HS hw hn
  clear hz
  have hne : ((n : Int) == z) = false := beq_eq_false_iff_ne.2 hn
  have hne2 : ((n : Int) != z) = true := bne_iff_ne.2 hn
  clear hn
  obtain ⟨cc, cm, cr, cg⟩ := c
  go_enter Try.func27, Try.ntmps27
  go_wp2_with fail
  refine (HC.out _).mono ?_
  rintro e w' ⟨rfl, hF⟩
  go_wp2_with fail
  refine (HS.out _).mono ?_
  rintro e w2 ⟨rfl, hF2⟩
  go_wp2
  go_ret2
  exact ⟨rfl, ((((Fr.refl _ _).alloc _).trans hF).alloc _).trans hF2⟩

/-- There is a hand now. -/
def Handed (w : World) (c : Cfg) (l : List Int) (e : Ending) (w' : World) : Prop := ∃ h ab db, e = .returned (.tuple #[.pointer (some ⟨h, 0, none⟩), .int .i64 0]) ∧ HAt w' h ab db ⟨c, l, Acc.z⟩ ∧ w.heap.size ≤ h ∧ w.heap.size ≤ ab ∧ w.heap.size ≤ db

theorem from_ok {w : World} {c : Cfg} (hR : c.Right) (v : Value) (l : List Int) (hv : RdS w v l.length (u64s l)) (hn : (l.length : Int) = c.words) (hwf : ∀ x, x ∈ l → 0 ≤ x ∧ x < 18446744073709551616) :
    Calls Try.prog 27 #[c.val, v] w fun e w' => Handed w c l e w' ∧ Fr [] w w' := by
  have HC := hid (fun W => place_new c W true hR.right)
  have HS := hid (fun W => size_any hR W)
  have hw := hR.words_pos
  rcases hv with ⟨h0, _⟩ | ⟨b, o, cap, rfl, hlt, hc⟩
  · omega
  have HV := fun W (f : Fr [] w W) => hid (anew_any (w := W) (v := .slice (some ⟨b, o, none⟩) l.length cap) (RdS.kept0 (w := w) (Or.inr ⟨b, o, cap, rfl, hlt, hc⟩) f) (by omega) hwf)
  have HL := hid hn
  have HK := hid hR
  rw [← hn] at HS hw
  have hne2 : ((l.length : Int) != (l.length : Int)) = false := by simp
  clear hn hc hwf hR
  obtain ⟨cc, cm, cr, cg⟩ := c
  go_enter Try.func27, Try.ntmps27
  go_wp2_with fail
  refine (HC.out _).mono ?_
  rintro e w' ⟨rfl, hF⟩
  go_wp2_with fail
  refine (HS.out _).mono ?_
  rintro e w2 ⟨rfl, hF2⟩
  have hB := (Blk.new _ _ _).kept hF2 (by simp)
  have kB := hB.cell
  have hF3 := ((((Fr.refl [] w).alloc _).trans hF).alloc _).trans hF2
  have hs3 := hF3.size
  go_wp2_with fail
  go_region_held3 (fun w3 => w3.cell? ⟨w'.heap.size, 0, none⟩ = some (.int .i64 cc) ∧ w3.cell? ⟨w'.heap.size, 1, none⟩ = some (.int .i64 cm) ∧ w3.cell? ⟨w'.heap.size, 2, none⟩ = some (.int .i64 cr) ∧ w3.cell? ⟨w'.heap.size, 3, none⟩ = some (.int .i64 cg)) (go_keep)
    (first | (go_at_call 87; refine (HV _ (hF3.drew)).out.mono ?_; rintro e w4 ⟨rfl, hA4, hF4⟩; (have hB4 := hB.drew.kept hF4 (by simp)); (have k4 := hB4.cell)))
  go_wp2
  go_ret2
  exact ⟨⟨w4.heap.size, w2.heap.size + 1, w2.heap.size, rfl, ⟨Blk.new _ _ _, hA4.alloc _, by have := hA4.hdr.lt; simp at this; omega, by have := hA4.dat.lt; simp at this; omega, HK.out, HL.out⟩, by have := hF4.size; simp at this; omega, by omega, by omega⟩, (hF3.drew.trans hF4).alloc _⟩

theorem firstTo_length (c : Cfg) (i : Int) : (firstTo c i).length = c.words.toNat := by simp [firstTo]
theorem firstTo_get (c : Cfg) (i : Int) (k : Nat) (h : k < c.words.toNat) : (firstTo c i)[k]? = some (firstAt c i k) := by simp [firstTo, h]
theorem firstTo_start (c : Cfg) (hR : c.Right) : (List.replicate c.words.toNat (0 : Int)).set 0 1 = firstTo c 0 := by
  have hw := hR.words_pos
  apply List.ext_getElem?
  intro k
  by_cases hk : k < c.words.toNat
  · rw [firstTo_get c 0 k hk, List.getElem?_set]
    unfold firstAt
    by_cases h0 : k = 0
    · subst h0; simp; omega
    · rw [if_neg (by omega), if_neg (by omega), if_neg]
      · simp [hk]
      · rintro ⟨h1, h2, h3⟩; omega
  · rw [List.getElem?_eq_none (by simp; omega), List.getElem?_eq_none (by simp [firstTo]; omega)]
theorem words_cA (c : Cfg) : c.words = c.cA + 3 * c.cells := by simp only [Cfg.words, Cfg.roots, Cfg.cA]; omega
theorem firstTo_step (c : Cfg) (hR : c.Right) (i : Nat) (hi : (i : Int) < c.cells - 1) : (firstTo c i).set (c.cA + 1 + 3 * i).toNat (cellW (i + 1)) = firstTo c (i + 1) := by
  have hw := hR.words_pos
  have ha := cA_bd hR
  have hc := words_cA c
  have h1 := hR.c1
  apply List.ext_getElem?
  intro k
  by_cases hk : k < c.words.toNat
  · rw [firstTo_get c _ k hk, List.getElem?_set]
    by_cases h0 : (c.cA + 1 + 3 * i).toNat = k
    · rw [if_pos h0, if_pos (by rw [firstTo_length]; omega)]
      refine congrArg some ?_
      unfold firstAt cellW
      rw [if_pos (by omega), if_neg (by omega), if_pos (by omega)]
      omega
    · rw [if_neg h0, firstTo_get c _ k hk]
      refine congrArg some ?_
      unfold firstAt
      split
      · rfl
      · by_cases hh : c.cA ≤ (k : Int) ∧ ((k : Int) - c.cA) % 3 = 1 ∧ ((k : Int) - c.cA) / 3 < i
        · rw [if_pos hh, if_pos (by omega)]
        · rw [if_neg hh, if_neg (by omega)]
  · rw [List.getElem?_eq_none (by simp [firstTo]; omega), List.getElem?_eq_none (by simp [firstTo]; omega)]
theorem firstAt_bd (c : Cfg) (hR : c.Right) (i k : Int) (hi : i ≤ c.cells) : 0 ≤ firstAt c i k ∧ firstAt c i k < 18446744073709551616 := by
  have h1 := hR.c1
  unfold firstAt
  split
  · omega
  · split <;> omega
theorem firstW_bd (c : Cfg) (hR : c.Right) : ∀ x, x ∈ firstW c → 0 ≤ x ∧ x < 18446744073709551616 := by
  intro x hx
  simp only [firstW, firstTo, List.mem_map] at hx
  obtain ⟨k, _, rfl⟩ := hx
  exact firstAt_bd c hR _ _ (by omega)

theorem first_bad {w : World} (c : Cfg) (hc : c.right = false) :
    Calls Try.prog 148 #[c.val] w fun e w' => e = .returned (.slice none 0 0) ∧ Fr [] w w' := by
  have HC := hid (fun W => place_new c W false hc)
  clear hc
  obtain ⟨cc, cm, cr, cg⟩ := c
  go_enter Try.func148, Try.ntmps148
  go_wp2_with fail
  refine (HC.out _).mono ?_
  rintro e w' ⟨rfl, hF⟩
  go_wp2
  go_ret
  exact ⟨rfl, ((((Fr.refl _ _).alloc _).trans hF).alloc _)⟩

/-- New words. -/
def NewWords (w : World) (T : TypeId) (l : List Int) (e : Ending) (w' : World) : Prop := ∃ g, e = .returned (.slice (some ⟨g, 0, none⟩) l.length l.length) ∧ Blk w' g T (u64s l) ∧ w.heap.size ≤ g

theorem first_ok {w : World} {c : Cfg} (hR : c.Right) :
    Calls Try.prog 148 #[c.val] w fun e w' => NewWords w 36 (firstW c) e w' ∧ Fr [] w w' := by
  have HC := hid (fun W => place_new c W true hR.right)
  have HS := hid (fun W => size_any hR W)
  have HD := hid (fun i W => cdr_any hR i W)
  have hw := hR.words_pos
  have ha := cA_bd hR
  have hcA := words_cA c
  have hc0 := hR.c0
  have hc1 := hR.c1
  obtain ⟨n, hn⟩ : ∃ n : Nat, (n : Int) = c.words := ⟨c.words.toNat, by omega⟩
  have hmk := fun W => mkW W n (by omega)
  have HW := hid (fun i W => cell_any i W)
  have hst := firstTo_start c hR
  have hsp := firstTo_step c hR
  have hln := firstTo_length c
  rw [← hn] at hst hln
  simp only [Int.toNat_natCast] at hst hln
  have HST := hid hst
  have HSP := hid hsp
  have HLN := hid hln
  have HCA := hid hcA
  have HK := hid hR
  rw [← hn] at HS
  have HN := hid hn
  have hn1 : 13 ≤ n ∧ n ≤ 20000 := by omega
  have hbig : c.cA + 3 * c.cells = n := by omega
  have HB := hid hbig
  clear hst hsp hln hcA hR hn hw hbig
  have hP : ∀ i : Nat, (i : Int) < c.cells - 1 → Hid (c.cellP 1 i = ((c.cA.toNat + 1 + 3 * i : Nat) : Int) ∧ c.cA.toNat + 1 + 3 * i < n) := by
    intro i hi
    have := HB.out
    refine ⟨?_, by omega⟩
    unfold Cfg.cellP pAt
    rw [if_pos (by omega)]
    omega
  obtain ⟨a, haa⟩ : ∃ a : Nat, (a : Int) = c.cA := ⟨c.cA.toNat, by omega⟩
  have HA := hid haa
  clear haa ha
  obtain ⟨cc, cm, cr, cg⟩ := c
  simp only at hc0 hc1 hP
  go_enter Try.func148, Try.ntmps148
  go_wp2_with fail
  refine (HC.out _).mono ?_
  rintro e w' ⟨rfl, hF⟩
  go_wp2_with fail
  refine (HS.out _).mono ?_
  rintro e w2 ⟨rfl, hF2⟩
  have hB := (Blk.new _ _ _).kept hF2 (by simp)
  have kB := hB.cell
  have hE := (((Blk.new _ _ _).kept hF (by simp)).alloc _).kept hF2 (by simp)
  have kE := hE.cell
  have hF3 := ((((Fr.refl [] w).alloc _).trans hF).alloc _).trans hF2
  have hs3 := hF3.size
  have hs0 := hB.lt
  have hs1 := hE.lt
  obtain ⟨w3, hw3⟩ : ∃ w3, w3 = w2.alloc (.cells (u64s (List.replicate n 0)).toArray 36) := ⟨_, rfl⟩
  have hm2 := hmk w2
  rw [← hw3] at hm2
  have hG : Blk w3 w2.heap.size 36 (u64s (List.replicate n 0)) := by rw [hw3]; exact Blk.new _ _ _
  have hF4 : Fr [] w2 w3 := by rw [hw3]; exact (Fr.refl _ _).alloc _
  have HH := hid hw3
  clear hmk hw3
  have g0 : w3.cell? ⟨w2.heap.size, 0, none⟩ = some (.int .u64 0) := by rw [hG.cell, u64s_get _ _ (by simp; omega), List.getD_eq_getElem?_getD, List.getElem?_replicate]; split <;> rfl
  have gf := hG.free
  have hE3 := hE.kept hF4 (by simp)
  have kE3 := hE3.cell
  have hs4 := hF4.size
  have n1 : ¬ w.heap.size = w2.heap.size := by omega
  have n2 : ¬ w'.heap.size = w2.heap.size := by omega
  go_wp2_with (first | (go_at_call 107; refine (HW.out 0 _).mono ?_; rintro e w4 ⟨rfl, rfl⟩))
  have hP2 := fun i hi => hid (hP i hi).out
  have hMap : Blk w3 w'.heap.size 73 [.int .i64 cc, .int .i64 cm, .int .i64 cr, .int .i64 cg] := hB.kept hF4 (by simp)
  go_loopw [23] (fun i wr => ∃ k : Nat, (k : Int) ≤ cc - 1 ∧ i = .int .i64 k ∧ Blk wr w2.heap.size 36 (u64s (firstTo ⟨cc, cm, cr, cg⟩ k)) ∧ Blk wr w'.heap.size 73 [.int .i64 cc, .int .i64 cm, .int .i64 cr, .int .i64 cg] ∧ Fr [] w wr ∧ w3.heap.size ≤ wr.heap.size) (fun i _ => (cc - 1).toNat - (intOf i).toNat)
  case atStart =>
    refine ⟨0, by omega, rfl, ?_, hMap.other (by simpa using n2) _, ((hF3.trans hF4).setCell (by simp; omega) _), by simp⟩
    have h1 := hG.set 0 (.int .u64 (cellW 0))
    rw [u64s_set] at h1
    have e1 : cellW 0 = 1 := rfl
    rw [e1] at h1 ⊢
    rw [HST.out] at h1
    exact h1
  case round =>
    obtain ⟨k, hk, rfl, hG2, hM2, hFr, hsz⟩ := hrel
    by_cases hlt2 : (k : Int) < cc - 1
    · have HPk := hP k hlt2
      have kM := hM2.cell
      have hN : (firstTo ⟨cc, cm, cr, cg⟩ k).length = n := HLN.out k
      have HG := hid hG2
      obtain ⟨q, hq⟩ : ∃ q : Nat, q = (Cfg.cA ⟨cc, cm, cr, cg⟩).toNat + 1 + 3 * k := ⟨_, rfl⟩
      rw [← hq] at HPk
      have hqn : q < n := HPk.out.2
      have hx : wr.cell? ⟨w2.heap.size, q, none⟩ = some (.int .u64 ((firstTo ⟨cc, cm, cr, cg⟩ k).getD q 0)) := (hG2.cell q).trans (u64s_get _ _ (by rw [hN]; exact hqn))
      obtain ⟨y, hy⟩ : ∃ y, y = (firstTo ⟨cc, cm, cr, cg⟩ k).getD q 0 := ⟨_, rfl⟩
      rw [← hy] at hx
      have hD := HD.out k
      rw [HPk.out.1] at hD
      have HD2 := hid hD
      have HQ := hid hq
      have HN := hid hN
      clear hq hy hN hD
      have hb2 := hG2.lt
      go_wp2_with (first
        | (go_at_call 104; refine (HD2.out _).mono ?_; rintro e w5 ⟨rfl, hF5⟩; (have hx5 := (hF5.cell (k := w2.heap.size) (o := q) hb2 (by simp)).trans hx); (have hG5 := hG2.kept hF5 (by simp)); (have hM5 := hM2.kept hF5 (by simp)); (have f5 := hG5.free q); (have kM5 := hM5.cell); (have hFr5 := hFr.trans hF5); (have hs5 := hF5.size))
        | (go_at_call 107; refine (HW.out (k + 1) _).mono ?_; rintro e w4 ⟨rfl, rfl⟩))
      go_roundw
      case rel =>
        refine ⟨k + 1, by omega, by go_num, ?_, hM5.other (by simpa using n2) _, hFr5.setCell (by simp; omega) _, by simp; omega⟩
        have h1 := hG5.set q (.int .u64 (cellW ((k : Int) + 1)))
        rw [u64s_set] at h1
        have h2 := HSP.out k hlt2
        have h3 : (Cfg.cA ⟨cc, cm, cr, cg⟩ + 1 + 3 * (k : Int)).toNat = q := by rw [HQ.out]; have := HA.out; omega
        rw [h3] at h2
        rw [h2] at h1
        exact h1
      case measure => simp [intOf]; omega
    · have hk2 : (k : Int) = cc - 1 := by omega
      have h2 : firstTo ⟨cc, cm, cr, cg⟩ (k : Int) = firstW ⟨cc, cm, cr, cg⟩ := by rw [hk2]; rfl
      rw [h2] at hG2
      have h3 : (firstW ⟨cc, cm, cr, cg⟩).length = n := HLN.out _
      have H3 := hid h3
      have hk3 : cc - 1 ≤ (k : Int) := by omega
      clear h2 hk2 h3
      go_wp2
      go_ret
      exact ⟨⟨w2.heap.size, by rw [H3.out]; rfl, hG2, by omega⟩, hFr⟩

theorem new_bad {w : World} (c : Cfg) (hc : c.right = false) :
    Calls Try.prog 102 #[c.val] w fun e w' => e = .returned (.tuple #[.pointer none, .int .i64 2]) ∧ Fr [] w w' := by
  have HA := hid (fun W => first_bad (w := W) c hc)
  have HB := hid (fun W => from_bad (w := W) c hc (.slice none 0 0))
  clear hc
  obtain ⟨cc, cm, cr, cg⟩ := c
  go_enter Try.func102, Try.ntmps102
  go_wp2_with fail
  go_region_held3 (fun w' => w'.cell? ⟨w.heap.size, 0, none⟩ = some (.int .i64 cc) ∧ w'.cell? ⟨w.heap.size, 1, none⟩ = some (.int .i64 cm) ∧ w'.cell? ⟨w.heap.size, 2, none⟩ = some (.int .i64 cr) ∧ w'.cell? ⟨w.heap.size, 3, none⟩ = some (.int .i64 cg)) (go_keep)
    (first | (go_at_call 148; refine (HA.out _).mono ?_; rintro e w2 ⟨rfl, hF2⟩; (have hB2 := (Blk.new w [.int .i64 cc, .int .i64 cm, .int .i64 cr, .int .i64 cg] 45).drew.kept hF2 (by simp)); (have k := hB2.cell)) | (go_at_call 27; refine (HB.out _).mono ?_; rintro e w3 ⟨rfl, hF3⟩; (have hB3 := hB2.kept hF3 (by simp)); (have k3 := hB3.cell)))
  go_wp2
  go_ret2
  exact ⟨rfl, ((((Fr.refl _ _).alloc _).drew).trans hF2).trans hF3⟩

theorem new_ok {w : World} {c : Cfg} (hR : c.Right) :
    Calls Try.prog 102 #[c.val] w fun e w' => Handed w c (firstW c) e w' ∧ Fr [] w w' := by
  have HA := hid (fun W => first_ok (w := W) hR)
  have hl : ((firstW c).length : Int) = c.words := by unfold firstW; rw [firstTo_length]; have := hR.words_pos; omega
  have HB := hid (fun W v hv => from_ok (w := W) hR v (firstW c) hv hl (firstW_bd c hR))
  clear hl hR
  obtain ⟨l, hl⟩ : ∃ l, l = firstW c := ⟨_, rfl⟩
  rw [← hl] at HA HB ⊢
  clear hl
  obtain ⟨cc, cm, cr, cg⟩ := c
  go_enter Try.func102, Try.ntmps102
  go_wp2_with fail
  go_region_held3 (fun w' => w'.cell? ⟨w.heap.size, 0, none⟩ = some (.int .i64 cc) ∧ w'.cell? ⟨w.heap.size, 1, none⟩ = some (.int .i64 cm) ∧ w'.cell? ⟨w.heap.size, 2, none⟩ = some (.int .i64 cr) ∧ w'.cell? ⟨w.heap.size, 3, none⟩ = some (.int .i64 cg)) (go_keep)
    (first | (go_at_call 148; refine (HA.out _).mono ?_; rintro e w2 ⟨⟨g, rfl, hG, hg⟩, hF2⟩; (have hB2 := (Blk.new w [.int .i64 cc, .int .i64 cm, .int .i64 cr, .int .i64 cg] 45).drew.kept hF2 (by simp)); (have k := hB2.cell)) | (go_at_call 27; refine (HB.out _ _ (RdS.of_blk hG)).mono ?_; rintro e w3 ⟨⟨h, ab, db, rfl, hH, q1, q2, q3⟩, hF3⟩; (have hB3 := hB2.kept hF3 (by simp)); (have k3 := hB3.cell)))
  go_wp2
  go_ret2
  have hs := hF2.size
  simp at hs
  exact ⟨⟨h, ab, db, rfl, hH, by omega, by omega, by omega⟩, ((((Fr.refl _ _).alloc _).drew).trans hF2).trans hF3⟩


theorem field_nil (x p : Int) (h0 : 0 ≤ x) (h1 : x < 18446744073709551616) (w : World) :
    Calls Try.prog 173 #[.pointer none, .int .u64 x, .int .i64 p] w fun e w' => e = .returned (.int .i64 (-1)) ∧ w = w' := by
  have HI := hid (isCell_any x h0 h1 w)
  clear h0 h1
  generalize isCell x = b at *
  generalize x / 2 = y at *
  cases b
  all_goals
    go_enter Try.func173, Try.ntmps173
    go_wp2_with fail
    refine HI.out.mono ?_
    rintro e w' ⟨rfl, rfl⟩
    go_wp2
    go_ret
    exact ⟨rfl, rfl⟩

theorem field_any {w : World} {h ab db : Nat} {s : HS} (H : HAt w h ab db s) (x p : Int) (h0 : 0 ≤ x) (h1 : x < 18446744073709551616) :
    Calls Try.prog 173 #[.pointer (some ⟨h, 0, none⟩), .int .u64 x, .int .i64 p] w fun e w' => e = .returned (.int .i64 (s.c.fieldP x p)) ∧ Fr [] w w' := by
  have HI := hid (isCell_any x h0 h1 w)
  have kb := H.blk.cell
  have H1 := hid (fun i W => car_any H.right i W)
  have H2 := hid (fun i W => cdr_any H.right i W)
  have H3 := hid (fun i W => colour_any H.right i W)
  clear H h0 h1
  obtain ⟨⟨cc, cm, cr, cg⟩, ws, acc⟩ := s
  simp only at kb H1 H2 H3 ⊢
  unfold Cfg.fieldP
  by_cases hc : isCell x = true
  · rw [hc] at HI
    rw [hc]
    clear hc
    generalize x / 2 = y at *
    by_cases p0 : p = 0
    · subst p0
      rw [if_pos (by decide)]
      go_enter Try.func173, Try.ntmps173
      go_wp2_with fail
      refine HI.out.mono ?_
      rintro e w' ⟨rfl, rfl⟩
      go_wp2_with fail
      refine (H1.out _ _).mono ?_
      rintro e w2 ⟨rfl, hF⟩
      go_wp2
      go_ret
      exact ⟨rfl, hF⟩
    by_cases p1 : p = 1
    · subst p1
      rw [if_pos (by decide)]
      go_enter Try.func173, Try.ntmps173
      go_wp2_with fail
      refine HI.out.mono ?_
      rintro e w' ⟨rfl, rfl⟩
      go_wp2_with fail
      refine (H2.out _ _).mono ?_
      rintro e w2 ⟨rfl, hF⟩
      go_wp2
      go_ret
      exact ⟨rfl, hF⟩
    by_cases p2 : p = 2
    · subst p2
      rw [if_pos (by decide)]
      go_enter Try.func173, Try.ntmps173
      go_wp2_with fail
      refine HI.out.mono ?_
      rintro e w' ⟨rfl, rfl⟩
      go_wp2_with fail
      refine (H3.out _ _).mono ?_
      rintro e w2 ⟨rfl, hF⟩
      go_wp2
      go_ret
      exact ⟨rfl, hF⟩
    rw [if_neg (by omega)]
    go_enter Try.func173, Try.ntmps173
    go_wp2_with fail
    refine HI.out.mono ?_
    rintro e w' ⟨rfl, rfl⟩
    go_wp2
    go_ret
    exact ⟨rfl, Fr.refl _ _⟩
  · rw [if_neg (by simp [hc])]
    have hc2 : isCell x = false := by simpa using hc
    rw [hc2] at HI
    clear hc hc2
    go_enter Try.func173, Try.ntmps173
    go_wp2_with fail
    refine HI.out.mono ?_
    rintro e w' ⟨rfl, rfl⟩
    go_wp2
    go_ret
    exact ⟨rfl, Fr.refl _ _⟩

theorem clear_any {w : World} {h ab db : Nat} {s : HS} (H : HAt w h ab db s) :
    Calls Try.prog 110 #[.pointer (some ⟨h, 0, none⟩)] w fun e w' => e = .returned (.tuple #[]) ∧ (HAt w' h ab db ⟨s.c, s.ws, Acc.z⟩ ∧ Fr [h, db] w w') := by
  obtain ⟨⟨cc, cm, cr, cg⟩, ws, acc⟩ := s
  obtain ⟨B, A, n1, n2, R, L⟩ := H
  have kb := B.cell
  have fb := B.free
  have HL := hid L
  simp only at B A R kb fb
  clear L
  go_enter Try.func110, Try.ntmps110
  go_wp2
  go_end0
  have zB := ((((B.set 5 (.int .i64 0)).set 6 (.int .i64 0)).set 7 (.int .u64 0)).set 8 (.int .u64 0)).set 9 (.int .u64 0)
  simp only [hcs, List.set_cons_zero, List.set_cons_succ] at zB
  exact ⟨rfl, ⟨zB, ((((A.other n1.symm n2.symm _).other n1.symm n2.symm _).other n1.symm n2.symm _).other n1.symm n2.symm _).other n1.symm n2.symm _, n1, n2, R, HL.out⟩, (((((Fr.refl [h, db] w).setCell (by simp) _).setCell (by simp) _).setCell (by simp) _).setCell (by simp) _ |>.setCell (by simp) _)⟩

end Go.Proofs.Ytnhnbgkhbhgifaa
