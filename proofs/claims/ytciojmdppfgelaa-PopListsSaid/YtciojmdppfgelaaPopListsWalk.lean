/- mudlarklaw13.PopLists: the walk. -/
import Derived.Test.YtciojmdppfgelaaRefListW
import Derived.Test.YtciojmdppfgelaaAwake13
import Derived.Test.YtciojmdppfgelaaLaw10
namespace Go.Proofs.Ytciojmdppfgelaa
open Go.RowKit
set_option linter.unusedVariables false
set_option linter.unusedSimpArgs false

theorem refGo_len {c : Cfg} {l : List Int} : ∀ (f : Nat) (u : Int) (out r : List Int), refGo c l f u out = some r → r.length ≤ out.length + f := by
  intro f
  induction f with
  | zero => intro u out r h; simp [refGo] at h
  | succ f ih =>
    intro u out r h
    unfold refGo at h
    split at h
    · simp only [Option.some.injEq] at h
      subst h
      omega
    · split at h
      · have := ih _ _ _ h
        simp at this
        omega
      · cases h

theorem refList_len {c : Cfg} (hR : c.Right) (l : List Int) : ((refList c l).getD []).length ≤ 35184372088832 := by
  cases h : refList c l with
  | none => simp
  | some r =>
    have := refGo_len _ _ _ _ h
    have := hR.c1
    simp at *
    omega

def ListRes (b : Bool) (out : List Int) (e : Ending) (w' : World) : Prop := ∃ u, e = .returned (.tuple #[u, .bool b]) ∧ RdS w' u out.length (i64s out)

set_option maxRecDepth 100000 in
theorem popList_bad {w : World} (c : Cfg) (a : Option Addr) (m cap : Nat) (h : ¬ (c.Right ∧ (m : Int) = c.words)) (hm : m ≤ 35184372088832) :
    Calls Try.prog 23 #[c.val, .slice a m cap] w fun e w' => ListRes false [] e w' ∧ Fr [] w w' := by
  by_cases hr : c.right = true
  · have hR := (c.right_iff).1 hr
    have HP := hid (fun W => place_new c W true hr)
    have HS := hid (fun W => size_any hR W)
    obtain ⟨z, hz⟩ : ∃ z, z = c.words := ⟨_, rfl⟩
    have hne : ((m : Int) != z) = true := bne_iff_ne.2 (fun e => h ⟨hR, by rw [e, hz]⟩)
    rw [← hz] at HS
    clear hz h hR hr
    obtain ⟨cc, cm, cr, cg⟩ := c
    simp only [if_true] at HP
    go_enter Try.func23, Try.ntmps23
    have hB := Blk.new w [.int .i64 cc, .int .i64 cm, .int .i64 cr, .int .i64 cg] 33
    have kB := hB.cell
    have hFF := (Fr.refl [] w).alloc (.cells #[.int .i64 cc, .int .i64 cm, .int .i64 cr, .int .i64 cg] 33)
    go_wp2_with fail
    go_step3
    go_wp2_with (first | (go_at_call 72; refine (HP.out _).mono ?_; rintro e w2 ⟨rfl, hF2⟩; (replace hFF := hFF.trans hF2)) | (go_at_call 73; refine (HS.out _).mono ?_; rintro e w3 ⟨rfl, hF2⟩; (replace hFF := (hFF.alloc _).trans hF2)))
    first | rw [Exit.noGoto_ret] | skip
    go_ret2
    exact ⟨⟨_, rfl, .inl ⟨rfl, rfl, none, 0, rfl⟩⟩, hFF⟩
  · have hr : c.right = false := by simpa using hr
    have HP := hid (fun W => place_new c W false hr)
    clear hr h
    obtain ⟨cc, cm, cr, cg⟩ := c
    simp only [Bool.false_eq_true, if_false] at HP
    go_enter Try.func23, Try.ntmps23
    have hB := Blk.new w [.int .i64 cc, .int .i64 cm, .int .i64 cr, .int .i64 cg] 33
    have kB := hB.cell
    have hFF := (Fr.refl [] w).alloc (.cells #[.int .i64 cc, .int .i64 cm, .int .i64 cr, .int .i64 cg] 33)
    go_wp2_with fail
    go_step3
    go_wp2_with (first | (go_at_call 72; refine (HP.out _).mono ?_; rintro e w2 ⟨rfl, hF2⟩; (replace hFF := hFF.trans hF2)))
    first | rw [Exit.noGoto_ret] | skip
    go_ret2
    exact ⟨⟨_, rfl, .inl ⟨rfl, rfl, none, 0, rfl⟩⟩, hFF.alloc _⟩

set_option maxRecDepth 100000 in
theorem refList_bad {w : World} (c : Cfg) (a : Option Addr) (m cap : Nat) (h : ¬ (c.Right ∧ (m : Int) = c.words)) (hm : m ≤ 35184372088832) :
    Calls Try.prog 24 #[c.val, .slice a m cap] w fun e w' => ListRes false [] e w' ∧ Fr [] w w' := by
  by_cases hr : c.right = true
  · have hR := (c.right_iff).1 hr
    have HP := hid (fun W => rRight_any c W true hr)
    have HS := hid (fun W => rWords_any hR W)
    obtain ⟨z, hz⟩ : ∃ z, z = c.words := ⟨_, rfl⟩
    have hne : ((m : Int) != z) = true := bne_iff_ne.2 (fun e => h ⟨hR, by rw [e, hz]⟩)
    rw [← hz] at HS
    clear hz h hR hr
    obtain ⟨cc, cm, cr, cg⟩ := c
    go_enter Try.func24, Try.ntmps24
    have hB := Blk.new w [.int .i64 cc, .int .i64 cm, .int .i64 cr, .int .i64 cg] 33
    have kB := hB.cell
    have hFF := (Fr.refl [] w).alloc (.cells #[.int .i64 cc, .int .i64 cm, .int .i64 cr, .int .i64 cg] 33)
    go_wp2_with (first | (go_at_call 49; refine (HP.out _).mono ?_; rintro e w2 ⟨rfl, hF2⟩; (replace hB := hB.kept hF2 (by simp)); (replace kB := hB.cell); (replace hFF := hFF.trans hF2)) | (go_at_call 50; refine (HS.out _).mono ?_; rintro e w3 ⟨rfl, hF2⟩; (replace hFF := hFF.trans hF2)))
    go_ret2
    exact ⟨⟨_, rfl, .inl ⟨rfl, rfl, none, 0, rfl⟩⟩, hFF⟩
  · have hr : c.right = false := by simpa using hr
    have HP := hid (fun W => rRight_any c W false hr)
    clear hr h
    obtain ⟨cc, cm, cr, cg⟩ := c
    go_enter Try.func24, Try.ntmps24
    have hB := Blk.new w [.int .i64 cc, .int .i64 cm, .int .i64 cr, .int .i64 cg] 33
    have kB := hB.cell
    have hFF := (Fr.refl [] w).alloc (.cells #[.int .i64 cc, .int .i64 cm, .int .i64 cr, .int .i64 cg] 33)
    go_wp2_with (first | (go_at_call 49; refine (HP.out _).mono ?_; rintro e w2 ⟨rfl, hF2⟩; (replace hFF := hFF.trans hF2)))
    go_ret2
    exact ⟨⟨_, rfl, .inl ⟨rfl, rfl, none, 0, rfl⟩⟩, hFF⟩

set_option maxRecDepth 100000 in
set_option maxHeartbeats 4000000 in
theorem popLists_any (c : Cfg) (v : Value) (l : List Int) (w : World) (hv : RdS w v l.length (u64s l)) (hl : l.length ≤ 35184372088832) (hwf : ∀ y, y ∈ l → 0 ≤ y ∧ y < 18446744073709551616) :
    Calls Try.prog 5 #[c.val, v] w fun e w' => e = .returned (.bool true) ∧ Fr [] w w' := by
  obtain ⟨ua, uc, rfl, hu⟩ := hv.elim
  clear hu
  obtain ⟨b, out, hlen, HPo, HRe⟩ : ∃ b out, out.length ≤ 35184372088832 ∧ (∀ W, Fr [] w W → Calls Try.prog 23 #[c.val, .slice ua l.length uc] W fun e w' => ListRes b out e w' ∧ Fr [] W w') ∧ (∀ W, Fr [] w W → Calls Try.prog 24 #[c.val, .slice ua l.length uc] W fun e w' => ListRes b out e w' ∧ Fr [] W w') := by
    by_cases hok : c.Right ∧ (l.length : Int) = c.words
    · refine ⟨(refList c l).isSome, (refList c l).getD [], refList_len hok.1 l, fun W f => ?_, fun W f => ?_⟩
      · have := popList_any (w := W) hok.1 _ l (hv.kept0 f) hok.2 hwf
        rw [refList_eq] at this
        exact this
      · exact refList_any (w := W) hok.1 _ l (hv.kept0 f) hok.2 hwf
    · exact ⟨false, [], by simp, fun W f => popList_bad c ua l.length uc hok hl, fun W f => refList_bad c ua l.length uc hok hl⟩
  replace HPo := hid HPo
  replace HRe := hid HRe
  have HG := hid (fun W => great_any c W)
  obtain ⟨g, hg⟩ : ∃ g, g = c.great := ⟨_, rfl⟩
  rw [← hg] at HG
  have hbb : (b == b) = true := by simp
  have HLE := hid hlen
  clear hv hwf hg hlen
  obtain ⟨cc, cm, cr, cg⟩ := c
  cases g
  · by_cases h4 : (400 : Int) < (l.length : Int)
    · go_enter Try.func5, Try.ntmps5
      have hB := Blk.new w [.int .i64 cc, .int .i64 cm, .int .i64 cr, .int .i64 cg] 33
      have kB := hB.cell
      have hFF := (Fr.refl [] w).alloc (.cells #[.int .i64 cc, .int .i64 cm, .int .i64 cr, .int .i64 cg] 33)
      go_wp2_with (first | (go_at_call 21; refine (awake13_any _).mono ?_; rintro e w2 ⟨rfl, hF2⟩; (replace hB := hB.kept hF2 (by simp)); (replace kB := hB.cell); (replace hFF := hFF.trans hF2)) | (go_at_call 22; refine (HG.out _).mono ?_; rintro e w2 ⟨rfl, hF2⟩; (replace hB := hB.kept hF2 (by simp)); (replace kB := hB.cell); (replace hFF := hFF.trans hF2)))
      go_ret
      exact ⟨rfl, hFF⟩
    · go_enter Try.func5, Try.ntmps5
      have hB := Blk.new w [.int .i64 cc, .int .i64 cm, .int .i64 cr, .int .i64 cg] 33
      have kB := hB.cell
      have hFF := (Fr.refl [] w).alloc (.cells #[.int .i64 cc, .int .i64 cm, .int .i64 cr, .int .i64 cg] 33)
      go_wp2_with (first | (go_at_call 21; refine (awake13_any _).mono ?_; rintro e w2 ⟨rfl, hF2⟩; (replace hB := hB.kept hF2 (by simp)); (replace kB := hB.cell); (replace hFF := hFF.trans hF2)) | (go_at_call 22; refine (HG.out _).mono ?_; rintro e w2 ⟨rfl, hF2⟩; (replace hB := hB.kept hF2 (by simp)); (replace kB := hB.cell); (replace hFF := hFF.trans hF2)) | (go_at_call 23; refine (HPo.out _ hFF).mono ?_; rintro e w2 ⟨⟨u1, rfl, hU1⟩, hF2⟩; (replace hB := hB.kept hF2 (by simp)); (replace kB := hB.cell); (replace hFF := hFF.trans hF2)) | (go_at_call 24; refine (HRe.out _ hFF).mono ?_; rintro e w2 ⟨⟨u2, rfl, hU2⟩, hF2⟩; (replace hU1 := hU1.kept0 hF2); (replace hFF := hFF.trans hF2)) | (go_at_call 25; refine (ints_true HLE.out hU1 hU2).mono ?_; rintro e w2 ⟨rfl, hF2⟩; (replace hFF := hFF.trans hF2)))
      go_ret
      exact ⟨rfl, hFF⟩
  · go_enter Try.func5, Try.ntmps5
    have hB := Blk.new w [.int .i64 cc, .int .i64 cm, .int .i64 cr, .int .i64 cg] 33
    have kB := hB.cell
    have hFF := (Fr.refl [] w).alloc (.cells #[.int .i64 cc, .int .i64 cm, .int .i64 cr, .int .i64 cg] 33)
    go_wp2_with (first | (go_at_call 21; refine (awake13_any _).mono ?_; rintro e w2 ⟨rfl, hF2⟩; (replace hB := hB.kept hF2 (by simp)); (replace kB := hB.cell); (replace hFF := hFF.trans hF2)) | (go_at_call 22; refine (HG.out _).mono ?_; rintro e w2 ⟨rfl, hF2⟩; (replace hB := hB.kept hF2 (by simp)); (replace kB := hB.cell); (replace hFF := hFF.trans hF2)))
    go_ret
    exact ⟨rfl, hFF⟩

end Go.Proofs.Ytciojmdppfgelaa
