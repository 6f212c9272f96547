/- mudlarkref04.First: the words at first. -/
import Derived.Test.YteggckdgjecfmaaAll4
namespace Go.Proofs.Yteggckdgjecfmaa
open Go.RowKit
set_option linter.unusedVariables false
set_option linter.unusedSimpArgs false

theorem rCell_any (i : Int) (w : World) :
    Calls Try.prog 110 #[.int .i64 i] w fun e w' => e = .returned (.int .u64 (cellW i)) ∧ w = w' := by
  unfold cellW
  by_cases h : 0 ≤ i ∧ i < 4096
  · obtain ⟨h0, h1⟩ := h
    rw [if_pos ⟨h0, h1⟩]
    go_enter Try.func110, Try.ntmps110
    go_wp2
    go_ret
    exact ⟨rfl, rfl⟩
  · rw [if_neg h]
    by_cases h0 : i < 0
    · clear h
      go_enter Try.func110, Try.ntmps110
      go_wp2
      go_ret
      exact ⟨rfl, rfl⟩
    · have h1 : 4096 ≤ i := by omega
      clear h
      go_enter Try.func110, Try.ntmps110
      go_wp2
      go_ret
      exact ⟨rfl, rfl⟩

theorem allS_bd (cc cm cr cg : Nat) (hR : (⟨cc, cm, cr, cg⟩ : Cfg).Right) : ∀ s, s ∈ allS cc cm cr cg → 0 ≤ s.a ∧ s.a ≤ 5000 := by
  have h1 := hR.c1; have h2 := hR.m1; have h3 := hR.g1
  simp only at h1 h2 h3
  intro s hs
  simp only [allS, List.mem_append, row1, rowsR, rowR, rowsC, List.mem_map, List.mem_flatMap, List.mem_range, List.mem_cons, List.not_mem_nil, or_false] at hs
  rcases hs with (((⟨i, hi, rfl⟩ | ⟨i, hi, rfl⟩) | ⟨i, hi, rfl⟩) | ⟨m, hm, i, hi, rfl⟩) | ⟨i, hi, rfl | rfl | rfl⟩ <;> simp only <;> omega

theorem rfirst4_ok {w : World} {cc cm cr cg : Nat} (hR : (⟨cc, cm, cr, cg⟩ : Cfg).Right) :
    Calls Try.prog 38 #[(⟨cc, cm, cr, cg⟩ : Cfg).val] w fun e w' => NewWords w 36 (firstW ⟨cc, cm, cr, cg⟩) e w' ∧ Fr [] w w' := by
  have HA := hid (fun W => all4_ok (w := W) hR)
  have HW := hid (fun i W => rCell_any i W)
  have hw := hR.words_pos
  have hmap := first_allS cc cm cr cg hR
  have hlen := allS_length cc cm cr cg
  obtain ⟨n, hn⟩ : ∃ n, n = (allS cc cm cr cg).length := ⟨_, rfl⟩
  have hn1 : 13 ≤ n ∧ n ≤ 20000 := by
    have : (firstW ⟨cc, cm, cr, cg⟩).length = n := by rw [← hmap, List.length_map, ← hn]
    have h2 : (firstW ⟨cc, cm, cr, cg⟩).length = (⟨cc, cm, cr, cg⟩ : Cfg).words.toNat := firstTo_length _ _
    omega
  have hc1 := hR.c1
  simp only at hc1
  have hbd := allS_bd cc cm cr cg hR
  obtain ⟨S, hS⟩ : ∃ S, S = allS cc cm cr cg := ⟨_, rfl⟩
  rw [← hS] at hmap hn HA hbd
  have HBD := hid hbd
  clear hbd
  have hmk := fun W => mkW W n (by omega)
  have HM := hid hmap
  have HN := hid hn
  clear hmap hlen hn hS hw hR
  go_enter Try.func38, Try.ntmps38
  go_wp2_with fail
  refine (HA.out _).mono ?_
  rintro e w1 ⟨⟨v, rfl, hO⟩, hF1⟩
  have hB := (Blk.new _ _ _).kept hF1 (by simp)
  have hFw := ((Fr.refl [] w).alloc _).trans hF1
  obtain ⟨hl, ⟨rfl, hz⟩ | ⟨g, cap, cur, rfl, hbg, hg, hnc, hcm, hcs, ht⟩⟩ := hO
  · have := HN.out; omega
  have hG : Blk w1 g 110 cur.toList := hg
  rw [← HN.out] at hnc ht hl
  have HT := hid ht
  have HL := hid hl
  have HCS := hid hcs
  have hgb : w.heap.size + 1 + 1 ≤ g := by simpa using hbg
  clear ht hl hcs hg hbg
  have hs1 := hFw.size
  have lB := hB.lt
  have lG := hG.lt
  obtain ⟨w3, hw3⟩ : ∃ w3, w3 = w1.alloc (.cells (u64s (List.replicate n 0)).toArray 36) := ⟨_, rfl⟩
  have hm2 := hmk w1
  rw [← hw3] at hm2
  have hD : Blk w3 w1.heap.size 36 (u64s (List.replicate n 0)) := by rw [hw3]; exact Blk.new _ _ _
  have hF4 : Fr [] w1 w3 := by rw [hw3]; exact (Fr.refl _ _).alloc _
  have HH := hid hw3
  clear hmk hw3
  rw [← HN.out]
  go_wp2
  have hD0 : Blk w3 w1.heap.size 36 (u64s (upTo (S.map (firstS cc)) 0)) := by rw [upTo_zero, List.length_map, ← HN.out]; exact hD
  go_loopw [5] (fun i wr => ∃ k : Nat, k ≤ n ∧ i = .int .i64 k ∧ Blk wr w1.heap.size 36 (u64s (upTo (S.map (firstS cc)) k)) ∧ Blk wr g 110 cur.toList ∧ Blk wr w.heap.size 45 [.int .i64 (cc : Int), .int .i64 cm, .int .i64 cr, .int .i64 cg] ∧ Fr [] w wr) (fun i _ => n - (intOf i).toNat)
  case atStart => exact ⟨0, by omega, rfl, hD0, hG.kept hF4 (by simp), hB.kept hF4 (by simp), hFw.trans hF4⟩
  case round =>
    obtain ⟨k, hk, rfl, hD1, hG1, hB1, hFr⟩ := hrel
    have kB := hB1.cell
    by_cases hlt : k < n
    · have hkS : k < S.length := by rw [← HN.out]; exact hlt
      obtain ⟨s, hs⟩ : ∃ s, S[k]? = some s := ⟨_, List.getElem?_eq_getElem hkS⟩
      have hg3 := spotCs_get S k s hs
      have hsa := HBD.out s (List.mem_of_getElem? hs)
      have hcell : ∀ j, j < n * 3 → wr.cell? ⟨g, j, none⟩ = (spotCs S)[j]? := by
        intro j hj
        rw [hG1.cell, ← HT.out, List.getElem?_take, if_pos hj]
      have e0 : wr.cell? ⟨g, k * 3, none⟩ = some (.int .i64 s.k) := by rw [Nat.mul_comm, hcell _ (by omega)]; exact hg3.1
      have e1 : wr.cell? ⟨g, k * 3 + 1, none⟩ = some (.int .i64 s.a) := by rw [Nat.mul_comm, hcell _ (by omega)]; exact hg3.2.1
      clear hcell hg3
      have hlm : (S.map (firstS cc)).length = n := by rw [List.length_map, ← HN.out]
      have hul := upTo_length (S.map (firstS cc)) k (by omega)
      have hz : wr.cell? ⟨w1.heap.size, k, none⟩ = some (.int .u64 ((upTo (S.map (firstS cc)) k).getD k 0)) := (hD1.cell k).trans (u64s_get _ _ (by rw [hul, hlm]; exact hlt))
      have hf := hD1.free k
      have hst := upTo_set (S.map (firstS cc)) k (by omega)
      have hgd : (S.map (firstS cc)).getD k 0 = firstS cc s := by rw [List.getD_eq_getElem?_getD, List.getElem?_map, hs]; rfl
      rw [hgd] at hst
      obtain ⟨y, hy⟩ : ∃ y, y = (upTo (S.map (firstS cc)) k).getD k 0 := ⟨_, rfl⟩
      rw [← hy] at hz
      have HST := hid hst
      have HD := hid hD1
      have HY := hid hy
      have hskip : firstS cc s = 0 → Hid (upTo (S.map (firstS cc)) (k + 1) = upTo (S.map (firstS cc)) k) := by
        intro h0
        have h1 := HST.out
        rw [h0] at h1
        rw [← h1]
        have h2 : (upTo (S.map (firstS cc)) k).getD k 0 = 0 := by
          unfold upTo
          rw [List.getD_eq_getElem?_getD, List.getElem?_append_right (by simp; omega), List.getElem?_replicate]
          split <;> rfl
        apply List.ext_getElem?
        intro j
        rw [List.getElem?_set]
        split
        · rename_i hj
          subst hj
          have hlt3 : k < (upTo (S.map (firstS cc)) k).length := by rw [hul, hlm]; exact hlt
          rw [if_pos hlt3, List.getElem?_eq_getElem hlt3]
          rw [List.getD_eq_getElem?_getD, List.getElem?_eq_getElem hlt3] at h2
          rw [← h2]; rfl
        · rfl
      have hnb : ¬ w.heap.size = w1.heap.size := by omega
      have hng : ¬ g = w1.heap.size := by omega
      clear hst hgd hy hul hlm hs hkS
      obtain ⟨sk, sa, sb⟩ := s
      simp only at e0 e1 hsa
      have hw1 : IntKind.i64.wrap (sa + 1) = sa + 1 := w64 _ (by omega)
      by_cases k5 : sk = 5
      · subst k5
        by_cases ka : sa + 1 < cc
        · have hd : decide (sa + 1 < (cc : Int)) = true := by simpa using ka
          have hfs : firstS cc ⟨5, sa, sb⟩ = cellW (sa + 1) := by simp [firstS, ka]
          have HFS := hid hfs
          clear hfs hskip
          go_wp2
          go_quiet (fail)
          go_wp2_with (first | (go_at_call 110; refine (HW.out (sa + 1) _).mono ?_; rintro e w4 ⟨rfl, rfl⟩))
          go_roundw
          case rel =>
            have h9 := HST.out
            rw [HFS.out] at h9
            refine ⟨k + 1, by omega, by go_num, ?_, hG1.other hng _, hB1.other hnb _, ?_⟩
            · rw [← h9, ← u64s_set]; exact (HD.out.drewN _).set _ _
            · exact (hFr.drewN _).setNew (by show w.heap.size ≤ w1.heap.size; omega) _
          case measure => simp [intOf]; omega
        · have hd : decide (sa + 1 < (cc : Int)) = false := by simpa using ka
          have hfs : firstS cc ⟨5, sa, sb⟩ = 0 := by simp [firstS, ka]
          have hul := (hskip hfs).out
          clear hfs hskip
          go_wp2
          go_quiet (fail)
          go_wp2
          go_roundw
          case rel => exact ⟨k + 1, by omega, by go_num, by rw [hul]; exact HD.out, hG1, hB1, hFr.drewN _⟩
          case measure => simp [intOf]; omega
      · have hk5 : (sk == 5) = false := by simpa using k5
        by_cases k0 : sk = 0
        · subst k0
          by_cases ka : sa = 0
          · subst ka
            have hfs : firstS cc ⟨0, 0, sb⟩ = cellW 0 := by simp [firstS]
            have HFS := hid hfs
            clear hfs hskip hw1
            go_wp2
            go_quiet (fail)
            go_wp2_with (first | (go_at_call 110; refine (HW.out 0 _).mono ?_; rintro e w4 ⟨rfl, rfl⟩))
            go_roundw
            case rel =>
              have h9 := HST.out
              rw [HFS.out] at h9
              refine ⟨k + 1, by omega, by go_num, ?_, hG1.other hng _, hB1.other hnb _, ?_⟩
              · rw [← h9, ← u64s_set]; exact (HD.out.drewN _).set _ _
              · exact (hFr.drewN _).setNew (by show w.heap.size ≤ w1.heap.size; omega) _
            case measure => simp [intOf]; omega
          · have hd : (sa == 0) = false := by simpa using ka
            have hfs : firstS cc ⟨0, sa, sb⟩ = 0 := by simp [firstS, ka]
            have hul := (hskip hfs).out
            clear hfs hskip
            go_wp2
            go_quiet (fail)
            go_wp2_with fail
            go_roundw
            case rel => exact ⟨k + 1, by omega, by go_num, by rw [hul]; exact HD.out, hG1, hB1, hFr.drewN _⟩
            case measure => simp [intOf]; omega
        · have hk0 : (sk == 0) = false := by simpa using k0
          have hfs : firstS cc ⟨sk, sa, sb⟩ = 0 := by simp [firstS, k5, k0]
          have hul := (hskip hfs).out
          clear hfs hskip
          go_wp2
          go_quiet (fail)
          go_wp2
          go_roundw
          case rel => exact ⟨k + 1, by omega, by go_num, by rw [hul]; exact HD.out, hG1, hB1, hFr.drewN _⟩
          case measure => simp [intOf]; omega
    · go_wp2
      go_ret
      obtain rfl : k = n := by omega
      have hlk : (S.map (firstS cc)).length = k := by rw [List.length_map, ← HN.out]
      rw [← hlk, upTo_all, HM.out] at hD1
      have h7 : (firstW ⟨cc, cm, cr, cg⟩).length = k := by rw [← HM.out, hlk]
      refine ⟨⟨w1.heap.size, ?_, hD1, by omega⟩, hFr⟩
      rw [h7]; rfl

end Go.Proofs.Yteggckdgjecfmaa
