/- Methods of a run. -/
import Derived.Test.YtolkgdchinaonaaRun
import Derived.Test.YtolkgdchinaonaaPlace
import Derived.Test.YtolkgdchinaonaaWord
namespace Go.Proofs.Ytolkgdchinaonaa
open Go.RowKit
set_option linter.unusedVariables false
set_option linter.unusedSimpArgs false

theorem atom_any (k : Int) (hk : -9223372036854775808 ≤ k ∧ k ≤ 9223372036854775807) (w : World) : Calls Try.prog 161 #[.int .i64 k] w fun e w' => e = .returned (.int .u64 (if k < 0 then 0 else k * 2)) ∧ w' = w := by
  by_cases h : k < 0
  · rw [if_pos h]
    go_enter Try.func161, Try.ntmps161
    go_wp2_with fail
    go_ret
    exact ⟨rfl, rfl⟩
  · rw [if_neg h]
    have h0 : 0 ≤ k := by omega
    have e1 : IntKind.u64.wrap k = k := by show k % 18446744073709551616 = k; omega
    have e2 : IntKind.u64.wrap (k * 2) = k * 2 := by show (k * 2) % 18446744073709551616 = _; omega
    go_enter Try.func161, Try.ntmps161
    go_wp2_with fail
    go_ret
    exact ⟨rfl, rfl⟩
theorem truth_any (b : Bool) (w : World) : Calls Try.prog 224 #[.bool b] w fun e w' => e = .returned (.int .i64 (if b = true then 2 else 3)) ∧ w' = w := by
  cases b <;> (go_enter Try.func224, Try.ntmps224; go_wp2_with fail; go_ret; exact ⟨rfl, rfl⟩)
set_option maxRecDepth 100000 in
set_option maxHeartbeats 4000000 in
theorem rreg_any {w : World} {h ab db rb : Nat} {s : HS} (H : HAt w h ab db s) (mm line ok oa ob oc a b c n t p back ret i : Int) (lin : Bool)  (X : Blk w rb 251 [.pointer (some ⟨h, 0, none⟩), .int .i64 mm, .int .i64 line, .int .i64 ok, .int .i64 oa, .int .i64 ob, .int .i64 oc, .int .u64 a, .int .u64 b, .int .u64 c, .int .u64 n, .int .u64 t, .int .u64 p, .int .i64 back, .int .i64 ret, .bool lin]) (n1 : h ≠ rb) (n2 : ab ≠ rb) (n3 : db ≠ rb) :
    Calls Try.prog 206 #[.pointer (some ⟨rb, 0, none⟩), .int .i64 i] w fun e w' => e = .returned (.int .i64 (s.c.regP mm i)) ∧ (HAt w' h ab db (s) ∧ Blk w' rb 251 [.pointer (some ⟨h, 0, none⟩), .int .i64 mm, .int .i64 line, .int .i64 ok, .int .i64 oa, .int .i64 ob, .int .i64 oc, .int .u64 a, .int .u64 b, .int .u64 c, .int .u64 n, .int .u64 t, .int .u64 p, .int .i64 back, .int .i64 ret, .bool lin] ∧ Fr [h, db, rb] w w') := by
  have hrr := H.right
  have HR := hid (fun W => reg_any hrr mm i W)
  obtain ⟨z, hz⟩ : ∃ z, z = s.c.regP mm i := ⟨_, rfl⟩
  rw [← hz] at HR ⊢
  clear hz
  have B := LB.start H X n1 n2 n3
  clear H X
  have kX := B.x.cell
  have fX := B.x.free
  have kH := B.H.cellsC (c := s.c) rfl
  go_enter Try.func206, Try.ntmps206
  go_wp2_with fail
  replace B := B.drew
  refine wp_region_held_drew (S := (fun (W : World) => W.cell? ⟨rb, 0, none⟩ = some (.pointer (some ⟨h, 0, none⟩)) ∧ W.cell? ⟨rb, 1, none⟩ = some (.int .i64 mm) ∧ W.cell? ⟨h, 1, none⟩ = some (.int .i64 s.c.cells) ∧ W.cell? ⟨h, 2, none⟩ = some (.int .i64 s.c.muts) ∧ W.cell? ⟨h, 3, none⟩ = some (.int .i64 s.c.regs) ∧ W.cell? ⟨h, 4, none⟩ = some (.int .i64 s.c.globs))) (by kernel_rfl) (by exact ⟨B.x.cell 0, B.x.cell 1, B.H.blk.cell 1, B.H.blk.cell 2, B.H.blk.cell 3, B.H.blk.cell 4⟩) (fun hHeld => ?_)
  refine wpAnyH_take (i := 0) (v := ?_) rfl (by kernel_rfl) (by kernel_rfl) (by kernel_rfl) (fun _ _ _ h => h) (Or.inl ⟨by rfl, ?_⟩) (by assumption) ?_
  rotate_left
  · intro w hSw; (try dsimp only at hSw); go_simp; first | done | with_reducible rfl
  try simp only [Act.put, List.getElem_toArray, List.getElem_cons_succ, List.getElem_cons_zero, List.setIfInBounds_toArray, List.set_cons_zero, List.set_cons_succ]
  refine wpAnyH_take (i := 1) (v := ?_) rfl (by kernel_rfl) (by kernel_rfl) (by kernel_rfl) (fun _ _ _ h => h) (Or.inl ⟨by rfl, ?_⟩) (by assumption) ?_
  rotate_left
  · intro w hSw; (try dsimp only at hSw); go_simp; first | done | with_reducible rfl
  try simp only [Act.put, List.getElem_toArray, List.getElem_cons_succ, List.getElem_cons_zero, List.setIfInBounds_toArray, List.set_cons_zero, List.set_cons_succ]
  refine wpAnyH_take (i := 2) (v := ?_) rfl (by kernel_rfl) (by kernel_rfl) (by kernel_rfl) (fun _ _ _ h => h) (Or.inl ⟨by rfl, ?_⟩) (by assumption) ?_
  rotate_left
  · intro w hSw; (try dsimp only at hSw); go_simp; first | done | with_reducible rfl
  try simp only [Act.put, List.getElem_toArray, List.getElem_cons_succ, List.getElem_cons_zero, List.setIfInBounds_toArray, List.set_cons_zero, List.set_cons_succ]
  refine wpAnyH_take (i := 3) (v := ?_) rfl (by kernel_rfl) (by kernel_rfl) (by kernel_rfl) (fun _ _ _ h => h) (Or.inl ⟨by rfl, ?_⟩) (by assumption) ?_
  rotate_left
  · intro w hSw; (try dsimp only at hSw); go_simp; first | done | with_reducible rfl
  try simp only [Act.put, List.getElem_toArray, List.getElem_cons_succ, List.getElem_cons_zero, List.setIfInBounds_toArray, List.set_cons_zero, List.set_cons_succ]
  refine wpAnyH_take (i := 4) (v := ?_) rfl (by kernel_rfl) (by kernel_rfl) (by kernel_rfl) (fun _ _ _ h => h) (Or.inl ⟨by rfl, ?_⟩) (by assumption) ?_
  rotate_left
  · intro w hSw; (try dsimp only at hSw); go_simp; first | done | with_reducible rfl
  try simp only [Act.put, List.getElem_toArray, List.getElem_cons_succ, List.getElem_cons_zero, List.setIfInBounds_toArray, List.set_cons_zero, List.set_cons_succ]
  refine wpAnyH_take (i := 5) (v := ?_) rfl (by kernel_rfl) (by kernel_rfl) (by kernel_rfl) (fun _ _ _ h => h) (Or.inl ⟨by rfl, ?_⟩) (by assumption) ?_
  rotate_left
  · intro w hSw; (try dsimp only at hSw); go_simp; first | done | with_reducible rfl
  try simp only [Act.put, List.getElem_toArray, List.getElem_cons_succ, List.getElem_cons_zero, List.setIfInBounds_toArray, List.set_cons_zero, List.set_cons_succ]
  refine wpAnyH_take (i := 6) (v := ?_) rfl (by kernel_rfl) (by kernel_rfl) (by kernel_rfl) (fun _ _ _ h => h) (Or.inl ⟨by rfl, ?_⟩) (by assumption) ?_
  rotate_left
  · intro w hSw; (try dsimp only at hSw); go_simp; first | done | with_reducible rfl
  try simp only [Act.put, List.getElem_toArray, List.getElem_cons_succ, List.getElem_cons_zero, List.setIfInBounds_toArray, List.set_cons_zero, List.set_cons_succ]
  refine wpAnyH_take (i := 7) (v := ?_) rfl (by kernel_rfl) (by kernel_rfl) (by kernel_rfl) (fun _ _ _ h => h) (Or.inl ⟨by rfl, ?_⟩) (by assumption) ?_
  rotate_left
  · intro w hSw; (try dsimp only at hSw); go_simp; first | done | with_reducible rfl
  try simp only [Act.put, List.getElem_toArray, List.getElem_cons_succ, List.getElem_cons_zero, List.setIfInBounds_toArray, List.set_cons_zero, List.set_cons_succ]
  refine wpAnyH_take (i := 8) (v := ?_) rfl (by kernel_rfl) (by kernel_rfl) (by kernel_rfl) (fun _ _ _ h => h) (Or.inl ⟨by rfl, ?_⟩) (by assumption) ?_
  rotate_left
  · intro w hSw; (try dsimp only at hSw); go_simp; first | done | with_reducible rfl
  try simp only [Act.put, List.getElem_toArray, List.getElem_cons_succ, List.getElem_cons_zero, List.setIfInBounds_toArray, List.set_cons_zero, List.set_cons_succ]
  refine wpAnyH_take (i := 9) (v := ?_) rfl (by kernel_rfl) (by kernel_rfl) (by kernel_rfl) (fun _ _ _ h => h) (Or.inl ⟨by rfl, ?_⟩) (by assumption) ?_
  rotate_left
  · intro w hSw; (try dsimp only at hSw); go_simp; first | done | with_reducible rfl
  try simp only [Act.put, List.getElem_toArray, List.getElem_cons_succ, List.getElem_cons_zero, List.setIfInBounds_toArray, List.set_cons_zero, List.set_cons_succ]
  refine wpAnyH_take (i := 10) (v := ?_) rfl (by kernel_rfl) (by kernel_rfl) (by kernel_rfl) (fun _ _ _ h => h) (Or.inl ⟨by rfl, ?_⟩) (by assumption) ?_
  rotate_left
  · intro w hSw; (try dsimp only at hSw); go_simp; first | done | with_reducible rfl
  try simp only [Act.put, List.getElem_toArray, List.getElem_cons_succ, List.getElem_cons_zero, List.setIfInBounds_toArray, List.set_cons_zero, List.set_cons_succ]
  refine wpAnyH_take (i := 11) (v := ?_) rfl (by kernel_rfl) (by kernel_rfl) (by kernel_rfl) (fun _ _ _ h => h) (Or.inl ⟨by rfl, ?_⟩) (by assumption) ?_
  rotate_left
  · intro w hSw; (try dsimp only at hSw); go_simp; first | done | with_reducible rfl
  try simp only [Act.put, List.getElem_toArray, List.getElem_cons_succ, List.getElem_cons_zero, List.setIfInBounds_toArray, List.set_cons_zero, List.set_cons_succ]
  refine wpAnyH_ready (rs := [12]) (by kernel_rfl) (by simp) ?_
  refine AllReadyH.cons rfl (fun K hK => ?_) AllReadyH.nil
  go_simp
  (go_at_call 158; refine (HR.out _).mono ?_; rintro e w2 ⟨rfl, hF2⟩; (replace B := B.kept0 hF2); (replace kX := B.x.cell); (replace fX := B.x.free); (replace kH := B.H.cellsC (c := s.c) rfl))
  go_wp2_with fail
  refine hK.out _ _ (by exact ⟨B.x.cell 0, B.x.cell 1, B.H.blk.cell 1, B.H.blk.cell 2, B.H.blk.cell 3, B.H.blk.cell 4⟩) (fun hHeld => ?_)
  clear hK K
  try simp only [Act.put, List.getElem_toArray, List.getElem_cons_succ, List.getElem_cons_zero, List.setIfInBounds_toArray, List.set_cons_zero, List.set_cons_succ]
  refine wpAnyH_take (i := 13) (v := ?_) rfl (by kernel_rfl) (by kernel_rfl) (by kernel_rfl) (fun _ _ _ h => h) (Or.inl ⟨by rfl, ?_⟩) (by assumption) ?_
  rotate_left
  · intro w hSw; (try dsimp only at hSw); go_simp; first | done | with_reducible rfl
  try simp only [Act.put, List.getElem_toArray, List.getElem_cons_succ, List.getElem_cons_zero, List.setIfInBounds_toArray, List.set_cons_zero, List.set_cons_succ]
  refine wpAnyH_done (by kernel_rfl) ?_ _
  clear hHeld
  try simp only [List.set_cons_zero, List.set_cons_succ] at B
  obtain ⟨W9, hW9, B9⟩ : ∃ W9, W9 = _ ∧ LB w h ab db rb _ _ W9 := ⟨_, rfl, B⟩
  rw [← hW9]
  clear B hW9
  have B := B9
  clear B9
  have kX := B.x.cell
  have fX := B.x.free
  have kH := B.H.cellsC (c := s.c) rfl
  go_wp2_with fail
  go_ret
  exact ⟨rfl, B.H, B.x, B.f⟩

set_option maxRecDepth 100000 in
set_option maxHeartbeats 4000000 in
theorem half_4 {w : World} {h ab db rb : Nat} {s : HS} (H : HAt w h ab db s) (mm line ok oa ob oc a b c n t p back ret : Int) (lin : Bool) (hk : ok = 4) (X : Blk w rb 251 [.pointer (some ⟨h, 0, none⟩), .int .i64 mm, .int .i64 line, .int .i64 ok, .int .i64 oa, .int .i64 ob, .int .i64 oc, .int .u64 a, .int .u64 b, .int .u64 c, .int .u64 n, .int .u64 t, .int .u64 p, .int .i64 back, .int .i64 ret, .bool lin]) (n1 : h ≠ rb) (n2 : ab ≠ rb) (n3 : db ≠ rb) :
    Calls Try.prog 214 #[.pointer (some ⟨rb, 0, none⟩)] w fun e w' => e = .returned (.int .i64 0) ∧ (HAt w' h ab db (s) ∧ Blk w' rb 251 [.pointer (some ⟨h, 0, none⟩), .int .i64 mm, .int .i64 line, .int .i64 ok, .int .i64 oa, .int .i64 ob, .int .i64 oc, .int .u64 a, .int .u64 b, .int .u64 c, .int .u64 n, .int .u64 t, .int .u64 p, .int .i64 back, .int .i64 ret, .bool lin] ∧ Fr [h, db, rb] w w') := by
  have hrr := H.right
  subst hk
  have B := LB.start H X n1 n2 n3
  clear H X
  have kX := B.x.cell
  have fX := B.x.free
  have kH := B.H.cellsC (c := s.c) rfl
  go_enter Try.func214, Try.ntmps214
  go_wp2_with fail
  go_ret
  exact ⟨rfl, B.H, B.x, B.f⟩

set_option maxRecDepth 100000 in
set_option maxHeartbeats 4000000 in
theorem half_6 {w : World} {h ab db rb : Nat} {s : HS} (H : HAt w h ab db s) (mm line ok oa ob oc a b c n t p back ret : Int) (lin : Bool) (hk : ok = 6) (X : Blk w rb 251 [.pointer (some ⟨h, 0, none⟩), .int .i64 mm, .int .i64 line, .int .i64 ok, .int .i64 oa, .int .i64 ob, .int .i64 oc, .int .u64 a, .int .u64 b, .int .u64 c, .int .u64 n, .int .u64 t, .int .u64 p, .int .i64 back, .int .i64 ret, .bool lin]) (n1 : h ≠ rb) (n2 : ab ≠ rb) (n3 : db ≠ rb) :
    Calls Try.prog 214 #[.pointer (some ⟨rb, 0, none⟩)] w fun e w' => e = .returned (.int .i64 0) ∧ (HAt w' h ab db (s) ∧ Blk w' rb 251 [.pointer (some ⟨h, 0, none⟩), .int .i64 mm, .int .i64 line, .int .i64 ok, .int .i64 oa, .int .i64 ob, .int .i64 oc, .int .u64 a, .int .u64 b, .int .u64 c, .int .u64 n, .int .u64 t, .int .u64 p, .int .i64 back, .int .i64 ret, .bool lin] ∧ Fr [h, db, rb] w w') := by
  have hrr := H.right
  subst hk
  have B := LB.start H X n1 n2 n3
  clear H X
  have kX := B.x.cell
  have fX := B.x.free
  have kH := B.H.cellsC (c := s.c) rfl
  go_enter Try.func214, Try.ntmps214
  go_wp2_with fail
  go_ret
  exact ⟨rfl, B.H, B.x, B.f⟩

set_option maxRecDepth 100000 in
set_option maxHeartbeats 4000000 in
theorem half_n {w : World} {h ab db rb : Nat} {s : HS} (H : HAt w h ab db s) (mm line ok oa ob oc a b c n t p back ret : Int) (lin : Bool) (k1 : (ok == 4) = false) (k2 : (ok == 6) = false) (X : Blk w rb 251 [.pointer (some ⟨h, 0, none⟩), .int .i64 mm, .int .i64 line, .int .i64 ok, .int .i64 oa, .int .i64 ob, .int .i64 oc, .int .u64 a, .int .u64 b, .int .u64 c, .int .u64 n, .int .u64 t, .int .u64 p, .int .i64 back, .int .i64 ret, .bool lin]) (n1 : h ≠ rb) (n2 : ab ≠ rb) (n3 : db ≠ rb) :
    Calls Try.prog 214 #[.pointer (some ⟨rb, 0, none⟩)] w fun e w' => e = .returned (.int .i64 1) ∧ (HAt w' h ab db (s) ∧ Blk w' rb 251 [.pointer (some ⟨h, 0, none⟩), .int .i64 mm, .int .i64 line, .int .i64 ok, .int .i64 oa, .int .i64 ob, .int .i64 oc, .int .u64 a, .int .u64 b, .int .u64 c, .int .u64 n, .int .u64 t, .int .u64 p, .int .i64 back, .int .i64 ret, .bool lin] ∧ Fr [h, db, rb] w w') := by
  have hrr := H.right
  have B := LB.start H X n1 n2 n3
  clear H X
  have kX := B.x.cell
  have fX := B.x.free
  have kH := B.H.cellsC (c := s.c) rfl
  go_enter Try.func214, Try.ntmps214
  go_wp2_with fail
  go_ret
  exact ⟨rfl, B.H, B.x, B.f⟩

theorem half_any {w : World} {h ab db rb : Nat} {s : HS} (H : HAt w h ab db s) (mm line ok oa ob oc a b c n t p back ret : Int) (lin : Bool) (X : Blk w rb 251 [.pointer (some ⟨h, 0, none⟩), .int .i64 mm, .int .i64 line, .int .i64 ok, .int .i64 oa, .int .i64 ob, .int .i64 oc, .int .u64 a, .int .u64 b, .int .u64 c, .int .u64 n, .int .u64 t, .int .u64 p, .int .i64 back, .int .i64 ret, .bool lin]) (n1 : h ≠ rb) (n2 : ab ≠ rb) (n3 : db ≠ rb) :
    Calls Try.prog 214 #[.pointer (some ⟨rb, 0, none⟩)] w fun e w' => e = .returned (.int .i64 (halfP ok)) ∧ (HAt w' h ab db s ∧ Blk w' rb 251 [.pointer (some ⟨h, 0, none⟩), .int .i64 mm, .int .i64 line, .int .i64 ok, .int .i64 oa, .int .i64 ob, .int .i64 oc, .int .u64 a, .int .u64 b, .int .u64 c, .int .u64 n, .int .u64 t, .int .u64 p, .int .i64 back, .int .i64 ret, .bool lin] ∧ Fr [h, db, rb] w w') := by
  by_cases h4 : ok = 4
  · have := half_4 H mm line ok oa ob oc a b c n t p back ret lin h4 X n1 n2 n3
    rw [show halfP ok = 0 by unfold halfP; rw [if_pos (.inl h4)]]
    exact this
  by_cases h6 : ok = 6
  · have := half_6 H mm line ok oa ob oc a b c n t p back ret lin h6 X n1 n2 n3
    rw [show halfP ok = 0 by unfold halfP; rw [if_pos (.inr h6)]]
    exact this
  have := half_n H mm line ok oa ob oc a b c n t p back ret lin (by simpa using h4) (by simpa using h6) X n1 n2 n3
  rw [show halfP ok = 1 by unfold halfP; rw [if_neg (by omega)]]
  exact this
set_option maxRecDepth 100000 in
set_option maxHeartbeats 4000000 in
theorem rend_any {w : World} {h ab db rb : Nat} {s : HS} (H : HAt w h ab db s) (mm line ok oa ob oc a b c n t p back ret r : Int) (lin : Bool)  (X : Blk w rb 251 [.pointer (some ⟨h, 0, none⟩), .int .i64 mm, .int .i64 line, .int .i64 ok, .int .i64 oa, .int .i64 ob, .int .i64 oc, .int .u64 a, .int .u64 b, .int .u64 c, .int .u64 n, .int .u64 t, .int .u64 p, .int .i64 back, .int .i64 ret, .bool lin]) (n1 : h ≠ rb) (n2 : ab ≠ rb) (n3 : db ≠ rb) :
    Calls Try.prog 207 #[.pointer (some ⟨rb, 0, none⟩), .int .i64 r] w fun e w' => e = .returned (.tuple #[]) ∧ (HAt w' h ab db (s) ∧ Blk w' rb 251 [.pointer (some ⟨h, 0, none⟩), .int .i64 mm, .int .i64 90, .int .i64 ok, .int .i64 oa, .int .i64 ob, .int .i64 oc, .int .u64 a, .int .u64 b, .int .u64 c, .int .u64 n, .int .u64 t, .int .u64 p, .int .i64 back, .int .i64 r, .bool true] ∧ Fr [h, db, rb] w w') := by
  have hrr := H.right
  have B := LB.start H X n1 n2 n3
  clear H X
  have kX := B.x.cell
  have fX := B.x.free
  have kH := B.H.cellsC (c := s.c) rfl
  go_enter Try.func207, Try.ntmps207
  go_wp2_with fail
  replace B := B.set 15 (.bool true)
  replace B := B.set 14 (.int .i64 r)
  replace B := B.set 2 (.int .i64 90)
  simp only [List.set_cons_zero, List.set_cons_succ] at B
  go_end0
  exact ⟨rfl, B.H, B.x, B.f⟩

set_option maxRecDepth 100000 in
set_option maxHeartbeats 4000000 in
theorem rput_y {w : World} {h ab db rb : Nat} {s : HS} (H : HAt w h ab db s) (mm line ok oa ob oc a b c n t p back ret at_ u bk : Int) (lin : Bool) (h0 : 0 ≤ u) (h1 : u < 18446744073709551616) (hc : isCell u = true) (X : Blk w rb 251 [.pointer (some ⟨h, 0, none⟩), .int .i64 mm, .int .i64 line, .int .i64 ok, .int .i64 oa, .int .i64 ob, .int .i64 oc, .int .u64 a, .int .u64 b, .int .u64 c, .int .u64 n, .int .u64 t, .int .u64 p, .int .i64 back, .int .i64 ret, .bool lin]) (n1 : h ≠ rb) (n2 : ab ≠ rb) (n3 : db ≠ rb) :
    Calls Try.prog 210 #[.pointer (some ⟨rb, 0, none⟩), .int .i64 at_, .int .u64 u, .int .i64 bk] w fun e w' => e = .returned (.tuple #[]) ∧ (HAt w' h ab db (s.doIt (aStore at_ u)) ∧ Blk w' rb 251 [.pointer (some ⟨h, 0, none⟩), .int .i64 mm, .int .i64 80, .int .i64 ok, .int .i64 oa, .int .i64 ob, .int .i64 oc, .int .u64 a, .int .u64 b, .int .u64 c, .int .u64 n, .int .u64 t, .int .u64 u, .int .i64 bk, .int .i64 ret, .bool lin] ∧ Fr [h, db, rb] w w') := by
  have hrr := H.right
  have HB := fun W => begin_any ⟨line, ok, oa, ob, oc, a, b, c, n, t, p, back, ret⟩ u bk h0 h1 W
  unfold brBegin at HB
  rw [if_pos hc] at HB
  simp only [MutV.val] at HB
  replace HB := hid HB
  have B := LB.start H X n1 n2 n3
  clear H X
  have kX := B.x.cell
  have fX := B.x.free
  have kH := B.H.cellsC (c := s.c) rfl
  go_enter Try.func210, Try.ntmps210
  go_wp2_with (first | (go_at_call 39; refine (hstore_any B.H _ _ ⟨h0, h1⟩).mono ?_; rintro e w2 ⟨rfl, HH, hF2⟩; (replace B := B.hand HH hF2); clear HH; (replace kX := B.x.cell); (replace fX := B.x.free); (replace kH := B.H.cellsC (c := s.c) rfl)) | (go_at_call 203; refine (HB.out _).mono ?_; rintro e w2 ⟨rfl, hF2⟩; (replace B := B.kept0 hF2); (replace kX := B.x.cell); (replace fX := B.x.free); (replace kH := B.H.cellsC (c := s.c) rfl)))
  replace B := B.set 2 (.int .i64 80)
  replace B := B.set 3 (.int .i64 ok)
  replace B := B.set 4 (.int .i64 oa)
  replace B := B.set 5 (.int .i64 ob)
  replace B := B.set 6 (.int .i64 oc)
  replace B := B.set 7 (.int .u64 a)
  replace B := B.set 8 (.int .u64 b)
  replace B := B.set 9 (.int .u64 c)
  replace B := B.set 10 (.int .u64 n)
  replace B := B.set 11 (.int .u64 t)
  replace B := B.set 12 (.int .u64 u)
  replace B := B.set 13 (.int .i64 bk)
  replace B := B.set 14 (.int .i64 ret)
  simp only [List.set_cons_zero, List.set_cons_succ] at B
  go_end0
  exact ⟨rfl, B.H, B.x, B.f⟩

set_option maxRecDepth 100000 in
set_option maxHeartbeats 4000000 in
theorem rput_n {w : World} {h ab db rb : Nat} {s : HS} (H : HAt w h ab db s) (mm line ok oa ob oc a b c n t p back ret at_ u bk : Int) (lin : Bool) (h0 : 0 ≤ u) (h1 : u < 18446744073709551616) (hc : isCell u = false) (X : Blk w rb 251 [.pointer (some ⟨h, 0, none⟩), .int .i64 mm, .int .i64 line, .int .i64 ok, .int .i64 oa, .int .i64 ob, .int .i64 oc, .int .u64 a, .int .u64 b, .int .u64 c, .int .u64 n, .int .u64 t, .int .u64 p, .int .i64 back, .int .i64 ret, .bool lin]) (n1 : h ≠ rb) (n2 : ab ≠ rb) (n3 : db ≠ rb) :
    Calls Try.prog 210 #[.pointer (some ⟨rb, 0, none⟩), .int .i64 at_, .int .u64 u, .int .i64 bk] w fun e w' => e = .returned (.tuple #[]) ∧ (HAt w' h ab db (s.doIt (aStore at_ u)) ∧ Blk w' rb 251 [.pointer (some ⟨h, 0, none⟩), .int .i64 mm, .int .i64 bk, .int .i64 ok, .int .i64 oa, .int .i64 ob, .int .i64 oc, .int .u64 a, .int .u64 b, .int .u64 c, .int .u64 n, .int .u64 t, .int .u64 0, .int .i64 0, .int .i64 ret, .bool lin] ∧ Fr [h, db, rb] w w') := by
  have hrr := H.right
  have HB := fun W => begin_any ⟨line, ok, oa, ob, oc, a, b, c, n, t, p, back, ret⟩ u bk h0 h1 W
  unfold brBegin at HB
  rw [if_neg (by simp [hc])] at HB
  simp only [MutV.val] at HB
  replace HB := hid HB
  have B := LB.start H X n1 n2 n3
  clear H X
  have kX := B.x.cell
  have fX := B.x.free
  have kH := B.H.cellsC (c := s.c) rfl
  go_enter Try.func210, Try.ntmps210
  go_wp2_with (first | (go_at_call 39; refine (hstore_any B.H _ _ ⟨h0, h1⟩).mono ?_; rintro e w2 ⟨rfl, HH, hF2⟩; (replace B := B.hand HH hF2); clear HH; (replace kX := B.x.cell); (replace fX := B.x.free); (replace kH := B.H.cellsC (c := s.c) rfl)) | (go_at_call 203; refine (HB.out _).mono ?_; rintro e w2 ⟨rfl, hF2⟩; (replace B := B.kept0 hF2); (replace kX := B.x.cell); (replace fX := B.x.free); (replace kH := B.H.cellsC (c := s.c) rfl)))
  replace B := B.set 2 (.int .i64 bk)
  replace B := B.set 3 (.int .i64 ok)
  replace B := B.set 4 (.int .i64 oa)
  replace B := B.set 5 (.int .i64 ob)
  replace B := B.set 6 (.int .i64 oc)
  replace B := B.set 7 (.int .u64 a)
  replace B := B.set 8 (.int .u64 b)
  replace B := B.set 9 (.int .u64 c)
  replace B := B.set 10 (.int .u64 n)
  replace B := B.set 11 (.int .u64 t)
  replace B := B.set 12 (.int .u64 0)
  replace B := B.set 13 (.int .i64 0)
  replace B := B.set 14 (.int .i64 ret)
  simp only [List.set_cons_zero, List.set_cons_succ] at B
  go_end0
  exact ⟨rfl, B.H, B.x, B.f⟩

set_option maxRecDepth 100000 in
set_option maxHeartbeats 4000000 in
theorem rcell_y {w : World} {h ab db rb : Nat} {s : HS} (H : HAt w h ab db s) (mm line ok oa ob oc a b c n t p back ret u nx : Int) (lin : Bool) (h0 : 0 ≤ u) (h1 : u < 18446744073709551616) (hc : isCell u = true) (X : Blk w rb 251 [.pointer (some ⟨h, 0, none⟩), .int .i64 mm, .int .i64 line, .int .i64 ok, .int .i64 oa, .int .i64 ob, .int .i64 oc, .int .u64 a, .int .u64 b, .int .u64 c, .int .u64 n, .int .u64 t, .int .u64 p, .int .i64 back, .int .i64 ret, .bool lin]) (n1 : h ≠ rb) (n2 : ab ≠ rb) (n3 : db ≠ rb) :
    Calls Try.prog 212 #[.pointer (some ⟨rb, 0, none⟩), .int .u64 u, .int .i64 nx] w fun e w' => e = .returned (.tuple #[]) ∧ (HAt w' h ab db (s) ∧ Blk w' rb 251 [.pointer (some ⟨h, 0, none⟩), .int .i64 mm, .int .i64 nx, .int .i64 ok, .int .i64 oa, .int .i64 ob, .int .i64 oc, .int .u64 a, .int .u64 b, .int .u64 c, .int .u64 n, .int .u64 t, .int .u64 p, .int .i64 back, .int .i64 ret, .bool lin] ∧ Fr [h, db, rb] w w') := by
  have hrr := H.right
  have HI := fun W => isCell_any u h0 h1 W
  simp only [hc] at HI
  replace HI := hid HI
  have B := LB.start H X n1 n2 n3
  clear H X
  have kX := B.x.cell
  have fX := B.x.free
  have kH := B.H.cellsC (c := s.c) rfl
  go_enter Try.func212, Try.ntmps212
  go_wp2_with (first | (go_at_call 144; refine (HI.out _).mono ?_; rintro e w2 ⟨rfl, rfl⟩) | (go_at_call 207; refine (rend_any B.H mm line ok oa ob oc a b c n t p back ret 4 lin B.x B.n1 B.n2 B.n3).mono ?_; rintro e w2 ⟨rfl, HH, HX, hF2⟩; (replace B := B.all HH HX hF2); clear HH HX; (replace kX := B.x.cell); (replace fX := B.x.free); (replace kH := B.H.cellsC (c := s.c) rfl)))
  replace B := B.set 2 (.int .i64 nx)
  simp only [List.set_cons_zero, List.set_cons_succ] at B
  first | (refine bodyPost_ret (results_none rfl _ _ _) rfl ?_) | go_end0
  exact ⟨rfl, B.H, B.x, B.f⟩

set_option maxRecDepth 100000 in
set_option maxHeartbeats 4000000 in
theorem rcell_n {w : World} {h ab db rb : Nat} {s : HS} (H : HAt w h ab db s) (mm line ok oa ob oc a b c n t p back ret u nx : Int) (lin : Bool) (h0 : 0 ≤ u) (h1 : u < 18446744073709551616) (hc : isCell u = false) (X : Blk w rb 251 [.pointer (some ⟨h, 0, none⟩), .int .i64 mm, .int .i64 line, .int .i64 ok, .int .i64 oa, .int .i64 ob, .int .i64 oc, .int .u64 a, .int .u64 b, .int .u64 c, .int .u64 n, .int .u64 t, .int .u64 p, .int .i64 back, .int .i64 ret, .bool lin]) (n1 : h ≠ rb) (n2 : ab ≠ rb) (n3 : db ≠ rb) :
    Calls Try.prog 212 #[.pointer (some ⟨rb, 0, none⟩), .int .u64 u, .int .i64 nx] w fun e w' => e = .returned (.tuple #[]) ∧ (HAt w' h ab db (s) ∧ Blk w' rb 251 [.pointer (some ⟨h, 0, none⟩), .int .i64 mm, .int .i64 90, .int .i64 ok, .int .i64 oa, .int .i64 ob, .int .i64 oc, .int .u64 a, .int .u64 b, .int .u64 c, .int .u64 n, .int .u64 t, .int .u64 p, .int .i64 back, .int .i64 4, .bool true] ∧ Fr [h, db, rb] w w') := by
  have hrr := H.right
  have HI := fun W => isCell_any u h0 h1 W
  simp only [hc] at HI
  replace HI := hid HI
  have B := LB.start H X n1 n2 n3
  clear H X
  have kX := B.x.cell
  have fX := B.x.free
  have kH := B.H.cellsC (c := s.c) rfl
  go_enter Try.func212, Try.ntmps212
  go_wp2_with (first | (go_at_call 144; refine (HI.out _).mono ?_; rintro e w2 ⟨rfl, rfl⟩) | (go_at_call 207; refine (rend_any B.H mm line ok oa ob oc a b c n t p back ret 4 lin B.x B.n1 B.n2 B.n3).mono ?_; rintro e w2 ⟨rfl, HH, HX, hF2⟩; (replace B := B.all HH HX hF2); clear HH HX; (replace kX := B.x.cell); (replace fX := B.x.free); (replace kH := B.H.cellsC (c := s.c) rfl)))
  first | (refine bodyPost_ret (results_none rfl _ _ _) rfl ?_) | go_end0
  exact ⟨rfl, B.H, B.x, B.f⟩


end Go.Proofs.Ytolkgdchinaonaa
