/- gate.Step, line by line. -/
import Derived.Test.YtolkgdchinaonaaGBox
import Derived.Test.YtolkgdchinaonaaGateFirst
import Derived.Test.YtolkgdchinaonaaPlace
import Derived.Test.YtolkgdchinaonaaHand
namespace Go.Proofs.Ytolkgdchinaonaa
open Go.RowKit
set_option linter.unusedVariables false
set_option linter.unusedSimpArgs false

theorem look_any {w : World} {h ab db hb : Nat} {s : HS} (b : Blk w hb 46 [.pointer (some ⟨h, 0, none⟩)]) (H : HAt w h ab db s) (o c : Int) :
    Calls Try.prog 129 #[.int .i64 o, .int .i64 c, .pointer (some ⟨hb, 0, none⟩)] w fun e w' => e = .returned (.int .i64 (if wAt s.ws 1 = 0 then o else c)) ∧ (HAt w' h ab db (s.doIt (aLoad 1)) ∧ Fr [h, db] w w') := by
  have HL := hid (hload_any H 1)
  obtain ⟨z, hz⟩ : ∃ z, z = wAt s.ws 1 := ⟨_, rfl⟩
  rw [← hz] at HL ⊢
  clear hz
  have kb := b.cell
  by_cases h0 : z = 0
  · rw [if_pos h0]
    subst h0
    go_enter Try.func129, Try.ntmps129
    go_wp2_with (first | (go_at_call 126; refine HL.out.mono ?_; rintro e w2 ⟨rfl, HH, hF2⟩))
    go_ret
    exact ⟨rfl, HH, hF2⟩
  · rw [if_neg h0]
    have b1 : (z == 0) = false := beq_eq_false_iff_ne.2 h0
    go_enter Try.func129, Try.ntmps129
    go_wp2_with (first | (go_at_call 126; refine HL.out.mono ?_; rintro e w2 ⟨rfl, HH, hF2⟩))
    go_ret
    exact ⟨rfl, HH, hF2⟩
theorem grow_any {w : World} {h ab db hb mb : Nat} {s : HS} (b : Blk w hb 46 [.pointer (some ⟨h, 0, none⟩)]) {m : Int} (bm : Blk w mb 3 [.int .i64 m]) (H : HAt w h ab db s) (nb : hb ∉ [h, db]) (nm : mb ∉ [h, db]) (k n : Int) (hk : 0 ≤ k ∧ k < 18446744073709551616) :
    Calls Try.prog 130 #[.int .u64 k, .int .i64 n, .pointer (some ⟨hb, 0, none⟩), .pointer (some ⟨mb, 0, none⟩)] w fun e w' => e = .returned (.int .i64 n) ∧ (HAt w' h ab db (s.doIt (aAdd (s.c.inP m) k)) ∧ Fr [h, db] w w') := by
  have hR := hid (fun W => in_any H.right m W)
  have HA := hid (fun (W : World) (HW : HAt W h ab db s) => hadd_any HW (s.c.inP m) k hk)
  obtain ⟨p, hp⟩ : ∃ p, p = s.c.inP m := ⟨_, rfl⟩
  rw [← hp] at hR HA ⊢
  clear hp hk
  have kH := H.cellsC (c := s.c) rfl
  have kb := b.cell
  have km := bm.cell
  have hF : Fr [h, db] w w := Fr.refl _ _
  go_enter Try.func130, Try.ntmps130
  go_upto_region 1 with fail
  replace H := H.drew
  replace b := b.drew
  replace bm := bm.drew
  replace hF := hF.drew
  replace kH := H.cellsC (c := s.c) rfl
  replace kb := b.cell
  replace km := bm.cell
  go_region_held3 (fun W => W.cell? ⟨hb, 0, none⟩ = some (.pointer (some ⟨h, 0, none⟩)) ∧ W.cell? ⟨mb, 0, none⟩ = some (.int .i64 m) ∧ W.cell? ⟨h, 1, none⟩ = some (.int .i64 s.c.cells) ∧ W.cell? ⟨h, 2, none⟩ = some (.int .i64 s.c.muts) ∧ W.cell? ⟨h, 3, none⟩ = some (.int .i64 s.c.regs) ∧ W.cell? ⟨h, 4, none⟩ = some (.int .i64 s.c.globs)) (go_keep)
    (first | (go_at_call 45; refine (hR.out _).mono ?_; rintro e w2 ⟨rfl, hF2⟩; (replace H := H.kept0 hF2); (replace b := b.kept hF2 List.not_mem_nil); (replace bm := bm.kept hF2 List.not_mem_nil); (replace hF := hF.trans (hF2.mono (by simp))); (replace kH := H.cellsC (c := s.c) rfl); (replace kb := b.cell); (replace km := bm.cell)) | (go_at_call 125; refine (HA.out _ H).mono ?_; rintro e w3 ⟨rfl, H2, hF3⟩; (replace b := b.kept hF3 nb); (replace bm := bm.kept hF3 nm); (replace hF := hF.trans hF3); (replace kH := H2.cellsC (c := s.c) rfl); (replace kb := b.cell); (replace km := bm.cell)))
  go_wp2
  go_ret
  exact ⟨rfl, H2, hF⟩
set_option maxRecDepth 100000 in
set_option maxHeartbeats 4000000 in
theorem ga1 {w : World} {h ab db : Nat} {s : HS} (H : HAt w h ab db s) (mm ok oa ob oc a b c n t p back ret : Int)  :
    Calls Try.prog 41 #[.pointer (some ⟨h, 0, none⟩), .int .i64 mm, .agg #[.int .i64 1, .int .i64 ok, .int .i64 oa, .int .i64 ob, .int .i64 oc, .int .u64 a, .int .u64 b, .int .u64 c, .int .u64 n, .int .u64 t, .int .u64 p, .int .i64 back, .int .i64 ret]] w fun e w' => e = .returned (.tuple #[.agg #[.int .i64 2, .int .i64 ok, .int .i64 oa, .int .i64 ob, .int .i64 oc, .int .u64 a, .int .u64 b, .int .u64 c, .int .u64 n, .int .u64 t, .int .u64 p, .int .i64 back, .int .i64 ret], .bool true]) ∧ (HAt w' h ab db (s.doIt (aAdd (s.c.inP mm) 1)) ∧ Fr [h, db] w w') := by
  have hmf : ∀ (fn : Fn) (first cap : Array Value) (w : World), (Instr.makeFunc fn first cap).run Try.prog w = .ok (.func fn first cap) w := fun _ _ _ _ => rfl
  have B := GB.start H mm [.int .i64 1, .int .i64 ok, .int .i64 oa, .int .i64 ob, .int .i64 oc, .int .u64 a, .int .u64 b, .int .u64 c, .int .u64 n, .int .u64 t, .int .u64 p, .int .i64 back, .int .i64 ret]
  have n0 := B.l1
  have n1 := B.l3
  have n2 := B.l2
  have nb : w.heap.size ∉ [h, db] := by simp; omega
  have nm : w.heap.size + 1 ∉ [h, db] := by simp; omega
  clear H
  simp only [zMut] at B
  have kX := B.x.cell
  have fX := B.x.free
  have kB := B.b.cell
  have kM := B.m.cell
  have kR := B.r.cell
  have fR := B.r.free
  go_enter Try.func41, Try.ntmps41
  go_wp2_with (first | (go_at_call 130; refine (grow_any B.b B.m B.H nb nm 1 _ (by omega)).mono ?_; rintro e w2 ⟨rfl, HH, hF2⟩; (replace B := B.hand HH hF2); clear HH; (replace kX := B.x.cell); (replace fX := B.x.free); (replace kB := B.b.cell); (replace kM := B.m.cell); (replace kR := B.r.cell); (replace fR := B.r.free)))
  replace B := B.set 0 (.int .i64 2)
  simp only [List.set_cons_zero, List.set_cons_succ] at B
  refine bodyPost_ret (v := .tuple #[.agg #[.int .i64 2, .int .i64 ok, .int .i64 oa, .int .i64 ob, .int .i64 oc, .int .u64 a, .int .u64 b, .int .u64 c, .int .u64 n, .int .u64 t, .int .u64 p, .int .i64 back, .int .i64 ret], .bool true]) (by simp [results, Try.results41, go_sem, kX, kR]) rfl ⟨rfl, ?_⟩
  exact B.done _ _ _ _ _ _ _ _ _ _ _ _ _

set_option maxRecDepth 100000 in
set_option maxHeartbeats 4000000 in
theorem ga2 {w : World} {h ab db : Nat} {s : HS} (H : HAt w h ab db s) (mm ok oa ob oc a b c n t p back ret : Int) (q : Int) (hz : (if wAt s.ws 1 = 0 then (3 : Int) else 4) = q) :
    Calls Try.prog 41 #[.pointer (some ⟨h, 0, none⟩), .int .i64 mm, .agg #[.int .i64 2, .int .i64 ok, .int .i64 oa, .int .i64 ob, .int .i64 oc, .int .u64 a, .int .u64 b, .int .u64 c, .int .u64 n, .int .u64 t, .int .u64 p, .int .i64 back, .int .i64 ret]] w fun e w' => e = .returned (.tuple #[.agg #[.int .i64 q, .int .i64 ok, .int .i64 oa, .int .i64 ob, .int .i64 oc, .int .u64 a, .int .u64 b, .int .u64 c, .int .u64 n, .int .u64 t, .int .u64 p, .int .i64 back, .int .i64 ret], .bool true]) ∧ (HAt w' h ab db (s.doIt (aLoad 1)) ∧ Fr [h, db] w w') := by
  have hmf : ∀ (fn : Fn) (first cap : Array Value) (w : World), (Instr.makeFunc fn first cap).run Try.prog w = .ok (.func fn first cap) w := fun _ _ _ _ => rfl
  have B := GB.start H mm [.int .i64 2, .int .i64 ok, .int .i64 oa, .int .i64 ob, .int .i64 oc, .int .u64 a, .int .u64 b, .int .u64 c, .int .u64 n, .int .u64 t, .int .u64 p, .int .i64 back, .int .i64 ret]
  have n0 := B.l1
  have n1 := B.l3
  have n2 := B.l2
  have nb : w.heap.size ∉ [h, db] := by simp; omega
  have nm : w.heap.size + 1 ∉ [h, db] := by simp; omega
  have HLk := fun {W : World} {hb : Nat} (b : Blk W hb 46 [.pointer (some ⟨h, 0, none⟩)]) (HW : HAt W h ab db s) => look_any b HW 3 4
  rw [hz] at HLk
  clear hz
  clear H
  simp only [zMut] at B
  have kX := B.x.cell
  have fX := B.x.free
  have kB := B.b.cell
  have kM := B.m.cell
  have kR := B.r.cell
  have fR := B.r.free
  go_enter Try.func41, Try.ntmps41
  go_wp2_with (first | (go_at_call 129; refine (HLk B.b B.H).mono ?_; rintro e w2 ⟨rfl, HH, hF2⟩; (replace B := B.hand HH hF2); clear HH; (replace kX := B.x.cell); (replace fX := B.x.free); (replace kB := B.b.cell); (replace kM := B.m.cell); (replace kR := B.r.cell); (replace fR := B.r.free)))
  replace B := B.set 0 (.int .i64 q)
  simp only [List.set_cons_zero, List.set_cons_succ] at B
  refine bodyPost_ret (v := .tuple #[.agg #[.int .i64 q, .int .i64 ok, .int .i64 oa, .int .i64 ob, .int .i64 oc, .int .u64 a, .int .u64 b, .int .u64 c, .int .u64 n, .int .u64 t, .int .u64 p, .int .i64 back, .int .i64 ret], .bool true]) (by simp [results, Try.results41, go_sem, kX, kR]) rfl ⟨rfl, ?_⟩
  exact B.done _ _ _ _ _ _ _ _ _ _ _ _ _

set_option maxRecDepth 100000 in
set_option maxHeartbeats 4000000 in
theorem ga3 {w : World} {h ab db : Nat} {s : HS} (H : HAt w h ab db s) (mm ok oa ob oc a b c n t p back ret : Int) (q : Int) (hfi : gFirst ok = q) :
    Calls Try.prog 41 #[.pointer (some ⟨h, 0, none⟩), .int .i64 mm, .agg #[.int .i64 3, .int .i64 ok, .int .i64 oa, .int .i64 ob, .int .i64 oc, .int .u64 a, .int .u64 b, .int .u64 c, .int .u64 n, .int .u64 t, .int .u64 p, .int .i64 back, .int .i64 ret]] w fun e w' => e = .returned (.tuple #[.agg #[.int .i64 q, .int .i64 ok, .int .i64 oa, .int .i64 ob, .int .i64 oc, .int .u64 a, .int .u64 b, .int .u64 c, .int .u64 n, .int .u64 t, .int .u64 p, .int .i64 back, .int .i64 ret], .bool true]) ∧ (HAt w' h ab db (s.doIt (aAdd (s.c.inP mm) 1)) ∧ Fr [h, db] w w') := by
  have hmf : ∀ (fn : Fn) (first cap : Array Value) (w : World), (Instr.makeFunc fn first cap).run Try.prog w = .ok (.func fn first cap) w := fun _ _ _ _ => rfl
  have B := GB.start H mm [.int .i64 3, .int .i64 ok, .int .i64 oa, .int .i64 ob, .int .i64 oc, .int .u64 a, .int .u64 b, .int .u64 c, .int .u64 n, .int .u64 t, .int .u64 p, .int .i64 back, .int .i64 ret]
  have n0 := B.l1
  have n1 := B.l3
  have n2 := B.l2
  have nb : w.heap.size ∉ [h, db] := by simp; omega
  have nm : w.heap.size + 1 ∉ [h, db] := by simp; omega
  have HFi := hid (fun W => first_any ok W)
  rw [hfi] at HFi
  clear hfi
  clear H
  simp only [zMut] at B
  have kX := B.x.cell
  have fX := B.x.free
  have kB := B.b.cell
  have kM := B.m.cell
  have kR := B.r.cell
  have fR := B.r.free
  go_enter Try.func41, Try.ntmps41
  go_wp2_with (first | (go_at_call 131; refine (HFi.out _).mono ?_; rintro e w3 ⟨rfl, hF2⟩; (replace B := B.kept0 hF2); (replace kX := B.x.cell); (replace fX := B.x.free); (replace kB := B.b.cell); (replace kM := B.m.cell); (replace kR := B.r.cell); (replace fR := B.r.free)) | (go_at_call 130; refine (grow_any B.b B.m B.H nb nm 1 _ (by omega)).mono ?_; rintro e w2 ⟨rfl, HH, hF2⟩; (replace B := B.hand HH hF2); clear HH; (replace kX := B.x.cell); (replace fX := B.x.free); (replace kB := B.b.cell); (replace kM := B.m.cell); (replace kR := B.r.cell); (replace fR := B.r.free)))
  replace B := B.set 0 (.int .i64 q)
  simp only [List.set_cons_zero, List.set_cons_succ] at B
  refine bodyPost_ret (v := .tuple #[.agg #[.int .i64 q, .int .i64 ok, .int .i64 oa, .int .i64 ob, .int .i64 oc, .int .u64 a, .int .u64 b, .int .u64 c, .int .u64 n, .int .u64 t, .int .u64 p, .int .i64 back, .int .i64 ret], .bool true]) (by simp [results, Try.results41, go_sem, kX, kR]) rfl ⟨rfl, ?_⟩
  exact B.done _ _ _ _ _ _ _ _ _ _ _ _ _

set_option maxRecDepth 100000 in
set_option maxHeartbeats 4000000 in
theorem ga4 {w : World} {h ab db : Nat} {s : HS} (H : HAt w h ab db s) (mm ok oa ob oc a b c n t p back ret : Int)  :
    Calls Try.prog 41 #[.pointer (some ⟨h, 0, none⟩), .int .i64 mm, .agg #[.int .i64 4, .int .i64 ok, .int .i64 oa, .int .i64 ob, .int .i64 oc, .int .u64 a, .int .u64 b, .int .u64 c, .int .u64 n, .int .u64 t, .int .u64 p, .int .i64 back, .int .i64 ret]] w fun e w' => e = .returned (.tuple #[.agg #[.int .i64 5, .int .i64 ok, .int .i64 oa, .int .i64 ob, .int .i64 oc, .int .u64 a, .int .u64 b, .int .u64 c, .int .u64 n, .int .u64 t, .int .u64 p, .int .i64 back, .int .i64 ret], .bool true]) ∧ (HAt w' h ab db (s.doIt (aAdd (s.c.inP mm) 2)) ∧ Fr [h, db] w w') := by
  have hmf : ∀ (fn : Fn) (first cap : Array Value) (w : World), (Instr.makeFunc fn first cap).run Try.prog w = .ok (.func fn first cap) w := fun _ _ _ _ => rfl
  have B := GB.start H mm [.int .i64 4, .int .i64 ok, .int .i64 oa, .int .i64 ob, .int .i64 oc, .int .u64 a, .int .u64 b, .int .u64 c, .int .u64 n, .int .u64 t, .int .u64 p, .int .i64 back, .int .i64 ret]
  have n0 := B.l1
  have n1 := B.l3
  have n2 := B.l2
  have nb : w.heap.size ∉ [h, db] := by simp; omega
  have nm : w.heap.size + 1 ∉ [h, db] := by simp; omega
  clear H
  simp only [zMut] at B
  have kX := B.x.cell
  have fX := B.x.free
  have kB := B.b.cell
  have kM := B.m.cell
  have kR := B.r.cell
  have fR := B.r.free
  go_enter Try.func41, Try.ntmps41
  go_wp2_with (first | (go_at_call 130; refine (grow_any B.b B.m B.H nb nm 2 _ (by omega)).mono ?_; rintro e w2 ⟨rfl, HH, hF2⟩; (replace B := B.hand HH hF2); clear HH; (replace kX := B.x.cell); (replace fX := B.x.free); (replace kB := B.b.cell); (replace kM := B.m.cell); (replace kR := B.r.cell); (replace fR := B.r.free)))
  replace B := B.set 0 (.int .i64 5)
  simp only [List.set_cons_zero, List.set_cons_succ] at B
  refine bodyPost_ret (v := .tuple #[.agg #[.int .i64 5, .int .i64 ok, .int .i64 oa, .int .i64 ob, .int .i64 oc, .int .u64 a, .int .u64 b, .int .u64 c, .int .u64 n, .int .u64 t, .int .u64 p, .int .i64 back, .int .i64 ret], .bool true]) (by simp [results, Try.results41, go_sem, kX, kR]) rfl ⟨rfl, ?_⟩
  exact B.done _ _ _ _ _ _ _ _ _ _ _ _ _

set_option maxRecDepth 100000 in
set_option maxHeartbeats 4000000 in
theorem ga5 {w : World} {h ab db : Nat} {s : HS} (H : HAt w h ab db s) (mm ok oa ob oc a b c n t p back ret : Int) (q : Int) (hz : (if wAt s.ws 1 = 0 then (6 : Int) else 5) = q) :
    Calls Try.prog 41 #[.pointer (some ⟨h, 0, none⟩), .int .i64 mm, .agg #[.int .i64 5, .int .i64 ok, .int .i64 oa, .int .i64 ob, .int .i64 oc, .int .u64 a, .int .u64 b, .int .u64 c, .int .u64 n, .int .u64 t, .int .u64 p, .int .i64 back, .int .i64 ret]] w fun e w' => e = .returned (.tuple #[.agg #[.int .i64 q, .int .i64 ok, .int .i64 oa, .int .i64 ob, .int .i64 oc, .int .u64 a, .int .u64 b, .int .u64 c, .int .u64 n, .int .u64 t, .int .u64 p, .int .i64 back, .int .i64 ret], .bool true]) ∧ (HAt w' h ab db (s.doIt (aLoad 1)) ∧ Fr [h, db] w w') := by
  have hmf : ∀ (fn : Fn) (first cap : Array Value) (w : World), (Instr.makeFunc fn first cap).run Try.prog w = .ok (.func fn first cap) w := fun _ _ _ _ => rfl
  have B := GB.start H mm [.int .i64 5, .int .i64 ok, .int .i64 oa, .int .i64 ob, .int .i64 oc, .int .u64 a, .int .u64 b, .int .u64 c, .int .u64 n, .int .u64 t, .int .u64 p, .int .i64 back, .int .i64 ret]
  have n0 := B.l1
  have n1 := B.l3
  have n2 := B.l2
  have nb : w.heap.size ∉ [h, db] := by simp; omega
  have nm : w.heap.size + 1 ∉ [h, db] := by simp; omega
  have HLk := fun {W : World} {hb : Nat} (b : Blk W hb 46 [.pointer (some ⟨h, 0, none⟩)]) (HW : HAt W h ab db s) => look_any b HW 6 5
  rw [hz] at HLk
  clear hz
  clear H
  simp only [zMut] at B
  have kX := B.x.cell
  have fX := B.x.free
  have kB := B.b.cell
  have kM := B.m.cell
  have kR := B.r.cell
  have fR := B.r.free
  go_enter Try.func41, Try.ntmps41
  go_wp2_with (first | (go_at_call 129; refine (HLk B.b B.H).mono ?_; rintro e w2 ⟨rfl, HH, hF2⟩; (replace B := B.hand HH hF2); clear HH; (replace kX := B.x.cell); (replace fX := B.x.free); (replace kB := B.b.cell); (replace kM := B.m.cell); (replace kR := B.r.cell); (replace fR := B.r.free)))
  replace B := B.set 0 (.int .i64 q)
  simp only [List.set_cons_zero, List.set_cons_succ] at B
  refine bodyPost_ret (v := .tuple #[.agg #[.int .i64 q, .int .i64 ok, .int .i64 oa, .int .i64 ob, .int .i64 oc, .int .u64 a, .int .u64 b, .int .u64 c, .int .u64 n, .int .u64 t, .int .u64 p, .int .i64 back, .int .i64 ret], .bool true]) (by simp [results, Try.results41, go_sem, kX, kR]) rfl ⟨rfl, ?_⟩
  exact B.done _ _ _ _ _ _ _ _ _ _ _ _ _

set_option maxRecDepth 100000 in
set_option maxHeartbeats 4000000 in
theorem ga6 {w : World} {h ab db : Nat} {s : HS} (H : HAt w h ab db s) (mm ok oa ob oc a b c n t p back ret : Int) (q : Int) (hfi : gFirst ok = q) :
    Calls Try.prog 41 #[.pointer (some ⟨h, 0, none⟩), .int .i64 mm, .agg #[.int .i64 6, .int .i64 ok, .int .i64 oa, .int .i64 ob, .int .i64 oc, .int .u64 a, .int .u64 b, .int .u64 c, .int .u64 n, .int .u64 t, .int .u64 p, .int .i64 back, .int .i64 ret]] w fun e w' => e = .returned (.tuple #[.agg #[.int .i64 q, .int .i64 ok, .int .i64 oa, .int .i64 ob, .int .i64 oc, .int .u64 a, .int .u64 b, .int .u64 c, .int .u64 n, .int .u64 t, .int .u64 p, .int .i64 back, .int .i64 ret], .bool true]) ∧ (HAt w' h ab db (s.doIt (aAdd (s.c.inP mm) 3)) ∧ Fr [h, db] w w') := by
  have hmf : ∀ (fn : Fn) (first cap : Array Value) (w : World), (Instr.makeFunc fn first cap).run Try.prog w = .ok (.func fn first cap) w := fun _ _ _ _ => rfl
  have B := GB.start H mm [.int .i64 6, .int .i64 ok, .int .i64 oa, .int .i64 ob, .int .i64 oc, .int .u64 a, .int .u64 b, .int .u64 c, .int .u64 n, .int .u64 t, .int .u64 p, .int .i64 back, .int .i64 ret]
  have n0 := B.l1
  have n1 := B.l3
  have n2 := B.l2
  have nb : w.heap.size ∉ [h, db] := by simp; omega
  have nm : w.heap.size + 1 ∉ [h, db] := by simp; omega
  have HFi := hid (fun W => first_any ok W)
  rw [hfi] at HFi
  clear hfi
  clear H
  simp only [zMut] at B
  have kX := B.x.cell
  have fX := B.x.free
  have kB := B.b.cell
  have kM := B.m.cell
  have kR := B.r.cell
  have fR := B.r.free
  go_enter Try.func41, Try.ntmps41
  go_wp2_with (first | (go_at_call 131; refine (HFi.out _).mono ?_; rintro e w3 ⟨rfl, hF2⟩; (replace B := B.kept0 hF2); (replace kX := B.x.cell); (replace fX := B.x.free); (replace kB := B.b.cell); (replace kM := B.m.cell); (replace kR := B.r.cell); (replace fR := B.r.free)) | (go_at_call 130; refine (grow_any B.b B.m B.H nb nm 3 _ (by omega)).mono ?_; rintro e w2 ⟨rfl, HH, hF2⟩; (replace B := B.hand HH hF2); clear HH; (replace kX := B.x.cell); (replace fX := B.x.free); (replace kB := B.b.cell); (replace kM := B.m.cell); (replace kR := B.r.cell); (replace fR := B.r.free)))
  replace B := B.set 0 (.int .i64 q)
  simp only [List.set_cons_zero, List.set_cons_succ] at B
  refine bodyPost_ret (v := .tuple #[.agg #[.int .i64 q, .int .i64 ok, .int .i64 oa, .int .i64 ob, .int .i64 oc, .int .u64 a, .int .u64 b, .int .u64 c, .int .u64 n, .int .u64 t, .int .u64 p, .int .i64 back, .int .i64 ret], .bool true]) (by simp [results, Try.results41, go_sem, kX, kR]) rfl ⟨rfl, ?_⟩
  exact B.done _ _ _ _ _ _ _ _ _ _ _ _ _

set_option maxRecDepth 100000 in
set_option maxHeartbeats 4000000 in
theorem ga90 {w : World} {h ab db : Nat} {s : HS} (H : HAt w h ab db s) (mm ok oa ob oc a b c n t p back ret : Int)  :
    Calls Try.prog 41 #[.pointer (some ⟨h, 0, none⟩), .int .i64 mm, .agg #[.int .i64 90, .int .i64 ok, .int .i64 oa, .int .i64 ob, .int .i64 oc, .int .u64 a, .int .u64 b, .int .u64 c, .int .u64 n, .int .u64 t, .int .u64 p, .int .i64 back, .int .i64 ret]] w fun e w' => e = .returned (.tuple #[.agg #[.int .i64 0, .int .i64 ok, .int .i64 oa, .int .i64 ob, .int .i64 oc, .int .u64 a, .int .u64 b, .int .u64 c, .int .u64 n, .int .u64 t, .int .u64 p, .int .i64 back, .int .i64 ret], .bool true]) ∧ (HAt w' h ab db (s.doIt (aAdd (s.c.inP mm) 2)) ∧ Fr [h, db] w w') := by
  have hmf : ∀ (fn : Fn) (first cap : Array Value) (w : World), (Instr.makeFunc fn first cap).run Try.prog w = .ok (.func fn first cap) w := fun _ _ _ _ => rfl
  have B := GB.start H mm [.int .i64 90, .int .i64 ok, .int .i64 oa, .int .i64 ob, .int .i64 oc, .int .u64 a, .int .u64 b, .int .u64 c, .int .u64 n, .int .u64 t, .int .u64 p, .int .i64 back, .int .i64 ret]
  have n0 := B.l1
  have n1 := B.l3
  have n2 := B.l2
  have nb : w.heap.size ∉ [h, db] := by simp; omega
  have nm : w.heap.size + 1 ∉ [h, db] := by simp; omega
  clear H
  simp only [zMut] at B
  have kX := B.x.cell
  have fX := B.x.free
  have kB := B.b.cell
  have kM := B.m.cell
  have kR := B.r.cell
  have fR := B.r.free
  go_enter Try.func41, Try.ntmps41
  go_wp2_with (first | (go_at_call 130; refine (grow_any B.b B.m B.H nb nm 2 _ (by omega)).mono ?_; rintro e w2 ⟨rfl, HH, hF2⟩; (replace B := B.hand HH hF2); clear HH; (replace kX := B.x.cell); (replace fX := B.x.free); (replace kB := B.b.cell); (replace kM := B.m.cell); (replace kR := B.r.cell); (replace fR := B.r.free)))
  replace B := B.set 0 (.int .i64 0)
  simp only [List.set_cons_zero, List.set_cons_succ] at B
  refine bodyPost_ret (v := .tuple #[.agg #[.int .i64 0, .int .i64 ok, .int .i64 oa, .int .i64 ob, .int .i64 oc, .int .u64 a, .int .u64 b, .int .u64 c, .int .u64 n, .int .u64 t, .int .u64 p, .int .i64 back, .int .i64 ret], .bool true]) (by simp [results, Try.results41, go_sem, kX, kR]) rfl ⟨rfl, ?_⟩
  exact B.done _ _ _ _ _ _ _ _ _ _ _ _ _

set_option maxRecDepth 100000 in
set_option maxHeartbeats 4000000 in
theorem gano {w : World} {h ab db : Nat} {s : HS} (H : HAt w h ab db s) (mm line ok oa ob oc a b c n t p back ret : Int) (k1 : ¬ line = 1) (k2 : ¬ line = 2) (k3 : ¬ line = 3) (k4 : ¬ line = 4) (k5 : ¬ line = 5) (k6 : ¬ line = 6) (k90 : ¬ line = 90) :
    Calls Try.prog 41 #[.pointer (some ⟨h, 0, none⟩), .int .i64 mm, .agg #[.int .i64 line, .int .i64 ok, .int .i64 oa, .int .i64 ob, .int .i64 oc, .int .u64 a, .int .u64 b, .int .u64 c, .int .u64 n, .int .u64 t, .int .u64 p, .int .i64 back, .int .i64 ret]] w fun e w' => e = .returned (.tuple #[.agg #[.int .i64 line, .int .i64 ok, .int .i64 oa, .int .i64 ob, .int .i64 oc, .int .u64 a, .int .u64 b, .int .u64 c, .int .u64 n, .int .u64 t, .int .u64 p, .int .i64 back, .int .i64 ret], .bool false]) ∧ (HAt w' h ab db (s) ∧ Fr [h, db] w w') := by
  have hmf : ∀ (fn : Fn) (first cap : Array Value) (w : World), (Instr.makeFunc fn first cap).run Try.prog w = .ok (.func fn first cap) w := fun _ _ _ _ => rfl
  have B := GB.start H mm [.int .i64 line, .int .i64 ok, .int .i64 oa, .int .i64 ob, .int .i64 oc, .int .u64 a, .int .u64 b, .int .u64 c, .int .u64 n, .int .u64 t, .int .u64 p, .int .i64 back, .int .i64 ret]
  have n0 := B.l1
  have n1 := B.l3
  have n2 := B.l2
  have nb : w.heap.size ∉ [h, db] := by simp; omega
  have nm : w.heap.size + 1 ∉ [h, db] := by simp; omega
  have H0 := H
  clear H
  simp only [zMut] at B
  have kX := B.x.cell
  have fX := B.x.free
  have kB := B.b.cell
  have kM := B.m.cell
  have kR := B.r.cell
  have fR := B.r.free
  go_enter Try.func41, Try.ntmps41
  go_wp2_with fail
  refine bodyPost_ret (v := .tuple #[.agg #[.int .i64 line, .int .i64 ok, .int .i64 oa, .int .i64 ob, .int .i64 oc, .int .u64 a, .int .u64 b, .int .u64 c, .int .u64 n, .int .u64 t, .int .u64 p, .int .i64 back, .int .i64 ret], .bool false]) (by simp [results, Try.results41, go_sem, kX, kR]) rfl ⟨rfl, ?_⟩
  exact ⟨(((H0.alloc _).alloc _).alloc _).alloc _, ((((Fr.refl _ _).alloc _).alloc _).alloc _).alloc _⟩

theorem gano2 (line : Int) (h : ¬ (line = 1 ∨ line = 2 ∨ line = 3 ∨ line = 4 ∨ line = 5 ∨ line = 6 ∨ line = 90)) : (line == 1) = false ∧ (line == 2) = false ∧ (line == 3) = false ∧ (line == 4) = false ∧ (line == 5) = false ∧ (line == 6) = false ∧ (line == 90) = false := by
  refine ⟨?_, ?_, ?_, ?_, ?_, ?_, ?_⟩ <;> (apply beq_eq_false_iff_ne.2; omega)
theorem gate_any {w : World} {h ab db : Nat} {s : HS} (H : HAt w h ab db s) (m : Int) (x : MutV) :
    Calls Try.prog 41 #[.pointer (some ⟨h, 0, none⟩), .int .i64 m, x.val] w fun e w' => e = .returned (.tuple #[(gateM s m x).x.val, .bool (gateM s m x).is]) ∧ HAt w' h ab db (gateM s m x).s ∧ Fr [h, db] w w' := by
  obtain ⟨line, ok, oa, ob, oc, a, b, c, n, t, p, back, ret⟩ := x
  by_cases h1 : line = 1
  · subst h1; exact ga1 H m _ _ _ _ _ _ _ _ _ _ _ _
  by_cases h2 : line = 2
  · subst h2; exact ga2 H m _ _ _ _ _ _ _ _ _ _ _ _ _ rfl
  by_cases h3 : line = 3
  · subst h3; exact ga3 H m _ _ _ _ _ _ _ _ _ _ _ _ _ rfl
  by_cases h4 : line = 4
  · subst h4; exact ga4 H m _ _ _ _ _ _ _ _ _ _ _ _
  by_cases h5 : line = 5
  · subst h5; exact ga5 H m _ _ _ _ _ _ _ _ _ _ _ _ _ rfl
  by_cases h6 : line = 6
  · subst h6; exact ga6 H m _ _ _ _ _ _ _ _ _ _ _ _ _ rfl
  by_cases h90 : line = 90
  · subst h90; exact ga90 H m _ _ _ _ _ _ _ _ _ _ _ _
  have := gano H m line ok oa ob oc a b c n t p back ret h1 h2 h3 h4 h5 h6 h90
  unfold gateM
  simp only
  rw [if_neg h1, if_neg h2, if_neg h3, if_neg h4, if_neg h5, if_neg h6, if_neg h90]
  exact this

end Go.Proofs.Ytolkgdchinaonaa
