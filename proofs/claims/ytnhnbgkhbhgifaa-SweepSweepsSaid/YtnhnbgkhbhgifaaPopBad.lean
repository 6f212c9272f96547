/- pop.List, mudlarkref13.List where there is no memory. -/
import Derived.Test.YtnhnbgkhbhgifaaRefListW
import Derived.Test.YtnhnbgkhbhgifaaLaw10
namespace Go.Proofs.Ytnhnbgkhbhgifaa
open Go.RowKit
set_option linter.unusedVariables false
set_option linter.unusedSimpArgs false

theorem refGo_len {c : Cfg} {l : List Int} : ∀ (f : Nat) (u : Int) (out r : List Int), refGo c l f u out = some r → r.length ≤ out.length + f := by
  intro f
  induction f with
  | zero => intro u out r h; simp [refGo] at h
  | succ f ih =>
    intro u out r h
    unfold refGo at h
    split at h
    · simp only [Option.some.injEq] at h
      subst h
      omega
    · split at h
      · have := ih _ _ _ h
        simp at this
        omega
      · cases h

theorem refList_len {c : Cfg} (hR : c.Right) (l : List Int) : ((refList c l).getD []).length ≤ 35184372088832 := by
  cases h : refList c l with
  | none => simp
  | some r =>
    have := refGo_len _ _ _ _ h
    have := hR.c1
    simp at *
    omega

def ListRes (b : Bool) (out : List Int) (e : Ending) (w' : World) : Prop := ∃ u, e = .returned (.tuple #[u, .bool b]) ∧ RdS w' u out.length (i64s out)

set_option maxRecDepth 100000 in
theorem popList_bad {w : World} (c : Cfg) (a : Option Addr) (m cap : Nat) (h : ¬ (c.Right ∧ (m : Int) = c.words)) (hm : m ≤ 35184372088832) :
    Calls Try.prog 120 #[c.val, .slice a m cap] w fun e w' => ListRes false [] e w' ∧ Fr [] w w' := by
  by_cases hr : c.right = true
  · have hR := (c.right_iff).1 hr
    have HP := hid (fun W => place_new c W true hr)
    have HS := hid (fun W => size_any hR W)
    obtain ⟨z, hz⟩ : ∃ z, z = c.words := ⟨_, rfl⟩
    have hne : ((m : Int) != z) = true := bne_iff_ne.2 (fun e => h ⟨hR, by rw [e, hz]⟩)
    rw [← hz] at HS
    clear hz h hR hr
    obtain ⟨cc, cm, cr, cg⟩ := c
    simp only [if_true] at HP
    go_enter Try.func120, Try.ntmps120
    have hB := Blk.new w [.int .i64 cc, .int .i64 cm, .int .i64 cr, .int .i64 cg] 45
    have kB := hB.cell
    have hFF := (Fr.refl [] w).alloc (.cells #[.int .i64 cc, .int .i64 cm, .int .i64 cr, .int .i64 cg] 45)
    go_wp2_with fail
    go_step3
    go_wp2_with (first | (go_at_call 98; refine (HP.out _).mono ?_; rintro e w2 ⟨rfl, hF2⟩; (replace hFF := hFF.trans hF2)) | (go_at_call 99; refine (HS.out _).mono ?_; rintro e w3 ⟨rfl, hF2⟩; (replace hFF := (hFF.alloc _).trans hF2)))
    first | rw [Exit.noGoto_ret] | skip
    go_ret2
    exact ⟨⟨_, rfl, .inl ⟨rfl, rfl, none, 0, rfl⟩⟩, hFF⟩
  · have hr : c.right = false := by simpa using hr
    have HP := hid (fun W => place_new c W false hr)
    clear hr h
    obtain ⟨cc, cm, cr, cg⟩ := c
    simp only [Bool.false_eq_true, if_false] at HP
    go_enter Try.func120, Try.ntmps120
    have hB := Blk.new w [.int .i64 cc, .int .i64 cm, .int .i64 cr, .int .i64 cg] 45
    have kB := hB.cell
    have hFF := (Fr.refl [] w).alloc (.cells #[.int .i64 cc, .int .i64 cm, .int .i64 cr, .int .i64 cg] 45)
    go_wp2_with fail
    go_step3
    go_wp2_with (first | (go_at_call 98; refine (HP.out _).mono ?_; rintro e w2 ⟨rfl, hF2⟩; (replace hFF := hFF.trans hF2)))
    first | rw [Exit.noGoto_ret] | skip
    go_ret2
    exact ⟨⟨_, rfl, .inl ⟨rfl, rfl, none, 0, rfl⟩⟩, hFF.alloc _⟩

set_option maxRecDepth 100000 in
theorem refList_bad {w : World} (c : Cfg) (a : Option Addr) (m cap : Nat) (h : ¬ (c.Right ∧ (m : Int) = c.words)) (hm : m ≤ 35184372088832) :
    Calls Try.prog 33 #[c.val, .slice a m cap] w fun e w' => ListRes false [] e w' ∧ Fr [] w w' := by
  by_cases hr : c.right = true
  · have hR := (c.right_iff).1 hr
    have HP := hid (fun W => rRight_any c W true hr)
    have HS := hid (fun W => rWords_any hR W)
    obtain ⟨z, hz⟩ : ∃ z, z = c.words := ⟨_, rfl⟩
    have hne : ((m : Int) != z) = true := bne_iff_ne.2 (fun e => h ⟨hR, by rw [e, hz]⟩)
    rw [← hz] at HS
    clear hz h hR hr
    obtain ⟨cc, cm, cr, cg⟩ := c
    go_enter Try.func33, Try.ntmps33
    have hB := Blk.new w [.int .i64 cc, .int .i64 cm, .int .i64 cr, .int .i64 cg] 45
    have kB := hB.cell
    have hFF := (Fr.refl [] w).alloc (.cells #[.int .i64 cc, .int .i64 cm, .int .i64 cr, .int .i64 cg] 45)
    go_wp2_with (first | (go_at_call 46; refine (HP.out _).mono ?_; rintro e w2 ⟨rfl, hF2⟩; (replace hB := hB.kept hF2 (by simp)); (replace kB := hB.cell); (replace hFF := hFF.trans hF2)) | (go_at_call 47; refine (HS.out _).mono ?_; rintro e w3 ⟨rfl, hF2⟩; (replace hFF := hFF.trans hF2)))
    go_ret2
    exact ⟨⟨_, rfl, .inl ⟨rfl, rfl, none, 0, rfl⟩⟩, hFF⟩
  · have hr : c.right = false := by simpa using hr
    have HP := hid (fun W => rRight_any c W false hr)
    clear hr h
    obtain ⟨cc, cm, cr, cg⟩ := c
    go_enter Try.func33, Try.ntmps33
    have hB := Blk.new w [.int .i64 cc, .int .i64 cm, .int .i64 cr, .int .i64 cg] 45
    have kB := hB.cell
    have hFF := (Fr.refl [] w).alloc (.cells #[.int .i64 cc, .int .i64 cm, .int .i64 cr, .int .i64 cg] 45)
    go_wp2_with (first | (go_at_call 46; refine (HP.out _).mono ?_; rintro e w2 ⟨rfl, hF2⟩; (replace hFF := hFF.trans hF2)))
    go_ret2
    exact ⟨⟨_, rfl, .inl ⟨rfl, rfl, none, 0, rfl⟩⟩, hFF⟩

end Go.Proofs.Ytnhnbgkhbhgifaa
