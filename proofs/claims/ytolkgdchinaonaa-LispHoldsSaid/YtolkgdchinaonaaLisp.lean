/- lisp.Step as one plain function. -/
import Derived.Test.YtolkgdchinaonaaLispStep
import Derived.Test.YtolkgdchinaonaaLine0
import Derived.Test.YtolkgdchinaonaaLine1
import Derived.Test.YtolkgdchinaonaaLine2
import Derived.Test.YtolkgdchinaonaaLine3
namespace Go.Proofs.Ytolkgdchinaonaa
open Go.RowKit
set_option linter.unusedVariables false
set_option linter.unusedSimpArgs false

theorem ofB {b : Bool} (h : ¬ b = true) : b = false := by simpa using h
set_option maxHeartbeats 4000000 in
theorem own10 {w : World} {h ab db : Nat} {s : HS} (H : HAt w h ab db s) (mm ok oa ob oc a b c n t p back ret : Int) (hx : (⟨10, ok, oa, ob, oc, a, b, c, n, t, p, back, ret⟩ : MutV).Wf) (ig : (gateM s.clear mm ⟨10, ok, oa, ob, oc, a, b, c, n, t, p, back, ret⟩).is = false) (it : (tkM s.clear ⟨10, ok, oa, ob, oc, a, b, c, n, t, p, back, ret⟩).is = false) (ip : (popM s.clear ⟨10, ok, oa, ob, oc, a, b, c, n, t, p, back, ret⟩).is = false) (ib : (brM s.clear ⟨10, ok, oa, ob, oc, a, b, c, n, t, p, back, ret⟩).is = false) :
    Calls Try.prog 150 #[.pointer (some ⟨h, 0, none⟩), .int .i64 mm, (⟨10, ok, oa, ob, oc, a, b, c, n, t, p, back, ret⟩ : MutV).val] w fun e w' => e = .returned (.tuple #[(ownM s.clear mm ⟨10, ok, oa, ob, oc, a, b, c, n, t, p, back, ret⟩).x.val, .bool (ownM s.clear mm ⟨10, ok, oa, ob, oc, a, b, c, n, t, p, back, ret⟩).lin, .bool false]) ∧ HAt w' h ab db (ownM s.clear mm ⟨10, ok, oa, ob, oc, a, b, c, n, t, p, back, ret⟩).s ∧ Fr [h, db] w w' := by
  simp only [ownM, Int.reduceEq, if_false, if_true]
  exact lisp_o H mm ⟨10, ok, oa, ob, oc, a, b, c, n, t, p, back, ret⟩ hx ig it ip ib (fnk := 205) rfl (fun args W => by kernel_rfl) _ _ _ (fun W rb HW X n1 n2 n3 => ln10 HW mm ok oa ob oc a b c n t p back ret hx.ob X n1 n2 n3)
set_option maxHeartbeats 4000000 in
theorem own11 {w : World} {h ab db : Nat} {s : HS} (H : HAt w h ab db s) (mm ok oa ob oc a b c n t p back ret : Int) (hx : (⟨11, ok, oa, ob, oc, a, b, c, n, t, p, back, ret⟩ : MutV).Wf) (ig : (gateM s.clear mm ⟨11, ok, oa, ob, oc, a, b, c, n, t, p, back, ret⟩).is = false) (it : (tkM s.clear ⟨11, ok, oa, ob, oc, a, b, c, n, t, p, back, ret⟩).is = false) (ip : (popM s.clear ⟨11, ok, oa, ob, oc, a, b, c, n, t, p, back, ret⟩).is = false) (ib : (brM s.clear ⟨11, ok, oa, ob, oc, a, b, c, n, t, p, back, ret⟩).is = false) :
    Calls Try.prog 150 #[.pointer (some ⟨h, 0, none⟩), .int .i64 mm, (⟨11, ok, oa, ob, oc, a, b, c, n, t, p, back, ret⟩ : MutV).val] w fun e w' => e = .returned (.tuple #[(ownM s.clear mm ⟨11, ok, oa, ob, oc, a, b, c, n, t, p, back, ret⟩).x.val, .bool (ownM s.clear mm ⟨11, ok, oa, ob, oc, a, b, c, n, t, p, back, ret⟩).lin, .bool false]) ∧ HAt w' h ab db (ownM s.clear mm ⟨11, ok, oa, ob, oc, a, b, c, n, t, p, back, ret⟩).s ∧ Fr [h, db] w w' := by
  simp only [ownM, Int.reduceEq, if_false, if_true]
  exact lisp_o H mm ⟨11, ok, oa, ob, oc, a, b, c, n, t, p, back, ret⟩ hx ig it ip ib (fnk := 208) rfl (fun args W => by kernel_rfl) _ _ _ (fun W rb HW X n1 n2 n3 => ln11 HW mm ok oa ob oc a b c n t p back ret X n1 n2 n3)
set_option maxHeartbeats 4000000 in
theorem own12 {w : World} {h ab db : Nat} {s : HS} (H : HAt w h ab db s) (mm ok oa ob oc a b c n t p back ret : Int) (hx : (⟨12, ok, oa, ob, oc, a, b, c, n, t, p, back, ret⟩ : MutV).Wf) (ig : (gateM s.clear mm ⟨12, ok, oa, ob, oc, a, b, c, n, t, p, back, ret⟩).is = false) (it : (tkM s.clear ⟨12, ok, oa, ob, oc, a, b, c, n, t, p, back, ret⟩).is = false) (ip : (popM s.clear ⟨12, ok, oa, ob, oc, a, b, c, n, t, p, back, ret⟩).is = false) (ib : (brM s.clear ⟨12, ok, oa, ob, oc, a, b, c, n, t, p, back, ret⟩).is = false) :
    Calls Try.prog 150 #[.pointer (some ⟨h, 0, none⟩), .int .i64 mm, (⟨12, ok, oa, ob, oc, a, b, c, n, t, p, back, ret⟩ : MutV).val] w fun e w' => e = .returned (.tuple #[(ownM s.clear mm ⟨12, ok, oa, ob, oc, a, b, c, n, t, p, back, ret⟩).x.val, .bool (ownM s.clear mm ⟨12, ok, oa, ob, oc, a, b, c, n, t, p, back, ret⟩).lin, .bool false]) ∧ HAt w' h ab db (ownM s.clear mm ⟨12, ok, oa, ob, oc, a, b, c, n, t, p, back, ret⟩).s ∧ Fr [h, db] w w' := by
  simp only [ownM, Int.reduceEq, if_false, if_true]
  simp only [brBegin]
  by_cases hc : isCell a = true
  · rw [if_pos hc]
    exact lisp_o H mm ⟨12, ok, oa, ob, oc, a, b, c, n, t, p, back, ret⟩ hx ig it ip ib (fnk := 209) rfl (fun args W => by kernel_rfl) _ _ _ (fun W rb HW X n1 n2 n3 => ln12y HW mm ok oa ob oc a b c n t p back ret hx.a.1 hx.a.2 hc X n1 n2 n3)
  · rw [if_neg hc]
    exact lisp_o H mm ⟨12, ok, oa, ob, oc, a, b, c, n, t, p, back, ret⟩ hx ig it ip ib (fnk := 209) rfl (fun args W => by kernel_rfl) _ _ _ (fun W rb HW X n1 n2 n3 => ln12n HW mm ok oa ob oc a b c n t p back ret hx.a.1 hx.a.2 (ofB hc) X n1 n2 n3)
set_option maxHeartbeats 4000000 in
theorem own13 {w : World} {h ab db : Nat} {s : HS} (H : HAt w h ab db s) (mm ok oa ob oc a b c n t p back ret : Int) (hx : (⟨13, ok, oa, ob, oc, a, b, c, n, t, p, back, ret⟩ : MutV).Wf) (ig : (gateM s.clear mm ⟨13, ok, oa, ob, oc, a, b, c, n, t, p, back, ret⟩).is = false) (it : (tkM s.clear ⟨13, ok, oa, ob, oc, a, b, c, n, t, p, back, ret⟩).is = false) (ip : (popM s.clear ⟨13, ok, oa, ob, oc, a, b, c, n, t, p, back, ret⟩).is = false) (ib : (brM s.clear ⟨13, ok, oa, ob, oc, a, b, c, n, t, p, back, ret⟩).is = false) :
    Calls Try.prog 150 #[.pointer (some ⟨h, 0, none⟩), .int .i64 mm, (⟨13, ok, oa, ob, oc, a, b, c, n, t, p, back, ret⟩ : MutV).val] w fun e w' => e = .returned (.tuple #[(ownM s.clear mm ⟨13, ok, oa, ob, oc, a, b, c, n, t, p, back, ret⟩).x.val, .bool (ownM s.clear mm ⟨13, ok, oa, ob, oc, a, b, c, n, t, p, back, ret⟩).lin, .bool false]) ∧ HAt w' h ab db (ownM s.clear mm ⟨13, ok, oa, ob, oc, a, b, c, n, t, p, back, ret⟩).s ∧ Fr [h, db] w w' := by
  simp only [ownM, Int.reduceEq, if_false, if_true]
  by_cases hc : isCell (wAt s.clear.ws (s.clear.c.regP mm ob)) = true
  · rw [if_pos hc]
    exact lisp_o H mm ⟨13, ok, oa, ob, oc, a, b, c, n, t, p, back, ret⟩ hx ig it ip ib (fnk := 211) rfl (fun args W => by kernel_rfl) _ _ _ (fun W rb HW X n1 n2 n3 => ln13y HW mm ok oa ob oc a b c n t p back ret hc X n1 n2 n3)
  · rw [if_neg hc]
    exact lisp_o H mm ⟨13, ok, oa, ob, oc, a, b, c, n, t, p, back, ret⟩ hx ig it ip ib (fnk := 211) rfl (fun args W => by kernel_rfl) _ _ _ (fun W rb HW X n1 n2 n3 => ln13n HW mm ok oa ob oc a b c n t p back ret (ofB hc) X n1 n2 n3)
set_option maxHeartbeats 4000000 in
theorem own14 {w : World} {h ab db : Nat} {s : HS} (H : HAt w h ab db s) (mm ok oa ob oc a b c n t p back ret : Int) (hx : (⟨14, ok, oa, ob, oc, a, b, c, n, t, p, back, ret⟩ : MutV).Wf) (ig : (gateM s.clear mm ⟨14, ok, oa, ob, oc, a, b, c, n, t, p, back, ret⟩).is = false) (it : (tkM s.clear ⟨14, ok, oa, ob, oc, a, b, c, n, t, p, back, ret⟩).is = false) (ip : (popM s.clear ⟨14, ok, oa, ob, oc, a, b, c, n, t, p, back, ret⟩).is = false) (ib : (brM s.clear ⟨14, ok, oa, ob, oc, a, b, c, n, t, p, back, ret⟩).is = false) :
    Calls Try.prog 150 #[.pointer (some ⟨h, 0, none⟩), .int .i64 mm, (⟨14, ok, oa, ob, oc, a, b, c, n, t, p, back, ret⟩ : MutV).val] w fun e w' => e = .returned (.tuple #[(ownM s.clear mm ⟨14, ok, oa, ob, oc, a, b, c, n, t, p, back, ret⟩).x.val, .bool (ownM s.clear mm ⟨14, ok, oa, ob, oc, a, b, c, n, t, p, back, ret⟩).lin, .bool false]) ∧ HAt w' h ab db (ownM s.clear mm ⟨14, ok, oa, ob, oc, a, b, c, n, t, p, back, ret⟩).s ∧ Fr [h, db] w w' := by
  simp only [ownM, Int.reduceEq, if_false, if_true]
  exact lisp_o H mm ⟨14, ok, oa, ob, oc, a, b, c, n, t, p, back, ret⟩ hx ig it ip ib (fnk := 213) rfl (fun args W => by kernel_rfl) _ _ _ (fun W rb HW X n1 n2 n3 => ln14 HW mm ok oa ob oc a b c n t p back ret hx.a.1 hx.a.2 X n1 n2 n3)
set_option maxHeartbeats 4000000 in
theorem own15 {w : World} {h ab db : Nat} {s : HS} (H : HAt w h ab db s) (mm ok oa ob oc a b c n t p back ret : Int) (hx : (⟨15, ok, oa, ob, oc, a, b, c, n, t, p, back, ret⟩ : MutV).Wf) (ig : (gateM s.clear mm ⟨15, ok, oa, ob, oc, a, b, c, n, t, p, back, ret⟩).is = false) (it : (tkM s.clear ⟨15, ok, oa, ob, oc, a, b, c, n, t, p, back, ret⟩).is = false) (ip : (popM s.clear ⟨15, ok, oa, ob, oc, a, b, c, n, t, p, back, ret⟩).is = false) (ib : (brM s.clear ⟨15, ok, oa, ob, oc, a, b, c, n, t, p, back, ret⟩).is = false) :
    Calls Try.prog 150 #[.pointer (some ⟨h, 0, none⟩), .int .i64 mm, (⟨15, ok, oa, ob, oc, a, b, c, n, t, p, back, ret⟩ : MutV).val] w fun e w' => e = .returned (.tuple #[(ownM s.clear mm ⟨15, ok, oa, ob, oc, a, b, c, n, t, p, back, ret⟩).x.val, .bool (ownM s.clear mm ⟨15, ok, oa, ob, oc, a, b, c, n, t, p, back, ret⟩).lin, .bool false]) ∧ HAt w' h ab db (ownM s.clear mm ⟨15, ok, oa, ob, oc, a, b, c, n, t, p, back, ret⟩).s ∧ Fr [h, db] w w' := by
  simp only [ownM, Int.reduceEq, if_false, if_true]
  simp only [brBegin]
  by_cases hc : isCell b = true
  · rw [if_pos hc]
    exact lisp_o H mm ⟨15, ok, oa, ob, oc, a, b, c, n, t, p, back, ret⟩ hx ig it ip ib (fnk := 215) rfl (fun args W => by kernel_rfl) _ _ _ (fun W rb HW X n1 n2 n3 => ln15y HW mm ok oa ob oc a b c n t p back ret hx.b.1 hx.b.2 hc X n1 n2 n3)
  · rw [if_neg hc]
    exact lisp_o H mm ⟨15, ok, oa, ob, oc, a, b, c, n, t, p, back, ret⟩ hx ig it ip ib (fnk := 215) rfl (fun args W => by kernel_rfl) _ _ _ (fun W rb HW X n1 n2 n3 => ln15n HW mm ok oa ob oc a b c n t p back ret hx.b.1 hx.b.2 (ofB hc) X n1 n2 n3)
set_option maxHeartbeats 4000000 in
theorem own16 {w : World} {h ab db : Nat} {s : HS} (H : HAt w h ab db s) (mm ok oa ob oc a b c n t p back ret : Int) (hx : (⟨16, ok, oa, ob, oc, a, b, c, n, t, p, back, ret⟩ : MutV).Wf) (ig : (gateM s.clear mm ⟨16, ok, oa, ob, oc, a, b, c, n, t, p, back, ret⟩).is = false) (it : (tkM s.clear ⟨16, ok, oa, ob, oc, a, b, c, n, t, p, back, ret⟩).is = false) (ip : (popM s.clear ⟨16, ok, oa, ob, oc, a, b, c, n, t, p, back, ret⟩).is = false) (ib : (brM s.clear ⟨16, ok, oa, ob, oc, a, b, c, n, t, p, back, ret⟩).is = false) :
    Calls Try.prog 150 #[.pointer (some ⟨h, 0, none⟩), .int .i64 mm, (⟨16, ok, oa, ob, oc, a, b, c, n, t, p, back, ret⟩ : MutV).val] w fun e w' => e = .returned (.tuple #[(ownM s.clear mm ⟨16, ok, oa, ob, oc, a, b, c, n, t, p, back, ret⟩).x.val, .bool (ownM s.clear mm ⟨16, ok, oa, ob, oc, a, b, c, n, t, p, back, ret⟩).lin, .bool false]) ∧ HAt w' h ab db (ownM s.clear mm ⟨16, ok, oa, ob, oc, a, b, c, n, t, p, back, ret⟩).s ∧ Fr [h, db] w w' := by
  simp only [ownM, Int.reduceEq, if_false, if_true]
  by_cases hc : isCell (wAt s.clear.ws (s.clear.c.regP mm oa)) = true
  · rw [if_pos hc]
    exact lisp_o H mm ⟨16, ok, oa, ob, oc, a, b, c, n, t, p, back, ret⟩ hx ig it ip ib (fnk := 216) rfl (fun args W => by kernel_rfl) _ _ _ (fun W rb HW X n1 n2 n3 => ln16y HW mm ok oa ob oc a b c n t p back ret hc X n1 n2 n3)
  · rw [if_neg hc]
    exact lisp_o H mm ⟨16, ok, oa, ob, oc, a, b, c, n, t, p, back, ret⟩ hx ig it ip ib (fnk := 216) rfl (fun args W => by kernel_rfl) _ _ _ (fun W rb HW X n1 n2 n3 => ln16n HW mm ok oa ob oc a b c n t p back ret (ofB hc) X n1 n2 n3)
set_option maxHeartbeats 4000000 in
theorem own17 {w : World} {h ab db : Nat} {s : HS} (H : HAt w h ab db s) (mm ok oa ob oc a b c n t p back ret : Int) (hx : (⟨17, ok, oa, ob, oc, a, b, c, n, t, p, back, ret⟩ : MutV).Wf) (ig : (gateM s.clear mm ⟨17, ok, oa, ob, oc, a, b, c, n, t, p, back, ret⟩).is = false) (it : (tkM s.clear ⟨17, ok, oa, ob, oc, a, b, c, n, t, p, back, ret⟩).is = false) (ip : (popM s.clear ⟨17, ok, oa, ob, oc, a, b, c, n, t, p, back, ret⟩).is = false) (ib : (brM s.clear ⟨17, ok, oa, ob, oc, a, b, c, n, t, p, back, ret⟩).is = false) :
    Calls Try.prog 150 #[.pointer (some ⟨h, 0, none⟩), .int .i64 mm, (⟨17, ok, oa, ob, oc, a, b, c, n, t, p, back, ret⟩ : MutV).val] w fun e w' => e = .returned (.tuple #[(ownM s.clear mm ⟨17, ok, oa, ob, oc, a, b, c, n, t, p, back, ret⟩).x.val, .bool (ownM s.clear mm ⟨17, ok, oa, ob, oc, a, b, c, n, t, p, back, ret⟩).lin, .bool false]) ∧ HAt w' h ab db (ownM s.clear mm ⟨17, ok, oa, ob, oc, a, b, c, n, t, p, back, ret⟩).s ∧ Fr [h, db] w w' := by
  simp only [ownM, Int.reduceEq, if_false, if_true]
  exact lisp_o H mm ⟨17, ok, oa, ob, oc, a, b, c, n, t, p, back, ret⟩ hx ig it ip ib (fnk := 217) rfl (fun args W => by kernel_rfl) _ _ _ (fun W rb HW X n1 n2 n3 => ln17 HW mm ok oa ob oc a b c n t p back ret X n1 n2 n3)
set_option maxHeartbeats 4000000 in
theorem own18 {w : World} {h ab db : Nat} {s : HS} (H : HAt w h ab db s) (mm ok oa ob oc a b c n t p back ret : Int) (hx : (⟨18, ok, oa, ob, oc, a, b, c, n, t, p, back, ret⟩ : MutV).Wf) (ig : (gateM s.clear mm ⟨18, ok, oa, ob, oc, a, b, c, n, t, p, back, ret⟩).is = false) (it : (tkM s.clear ⟨18, ok, oa, ob, oc, a, b, c, n, t, p, back, ret⟩).is = false) (ip : (popM s.clear ⟨18, ok, oa, ob, oc, a, b, c, n, t, p, back, ret⟩).is = false) (ib : (brM s.clear ⟨18, ok, oa, ob, oc, a, b, c, n, t, p, back, ret⟩).is = false) :
    Calls Try.prog 150 #[.pointer (some ⟨h, 0, none⟩), .int .i64 mm, (⟨18, ok, oa, ob, oc, a, b, c, n, t, p, back, ret⟩ : MutV).val] w fun e w' => e = .returned (.tuple #[(ownM s.clear mm ⟨18, ok, oa, ob, oc, a, b, c, n, t, p, back, ret⟩).x.val, .bool (ownM s.clear mm ⟨18, ok, oa, ob, oc, a, b, c, n, t, p, back, ret⟩).lin, .bool false]) ∧ HAt w' h ab db (ownM s.clear mm ⟨18, ok, oa, ob, oc, a, b, c, n, t, p, back, ret⟩).s ∧ Fr [h, db] w w' := by
  simp only [ownM, Int.reduceEq, if_false, if_true]
  simp only [brBegin]
  by_cases hc : isCell b = true
  · rw [if_pos hc]
    exact lisp_o H mm ⟨18, ok, oa, ob, oc, a, b, c, n, t, p, back, ret⟩ hx ig it ip ib (fnk := 218) rfl (fun args W => by kernel_rfl) _ _ _ (fun W rb HW X n1 n2 n3 => ln18y HW mm ok oa ob oc a b c n t p back ret hx.a.1 hx.a.2 hx.b.1 hx.b.2 hc X n1 n2 n3)
  · rw [if_neg hc]
    exact lisp_o H mm ⟨18, ok, oa, ob, oc, a, b, c, n, t, p, back, ret⟩ hx ig it ip ib (fnk := 218) rfl (fun args W => by kernel_rfl) _ _ _ (fun W rb HW X n1 n2 n3 => ln18n HW mm ok oa ob oc a b c n t p back ret hx.a.1 hx.a.2 hx.b.1 hx.b.2 (ofB hc) X n1 n2 n3)
set_option maxHeartbeats 4000000 in
theorem own19 {w : World} {h ab db : Nat} {s : HS} (H : HAt w h ab db s) (mm ok oa ob oc a b c n t p back ret : Int) (hx : (⟨19, ok, oa, ob, oc, a, b, c, n, t, p, back, ret⟩ : MutV).Wf) (ig : (gateM s.clear mm ⟨19, ok, oa, ob, oc, a, b, c, n, t, p, back, ret⟩).is = false) (it : (tkM s.clear ⟨19, ok, oa, ob, oc, a, b, c, n, t, p, back, ret⟩).is = false) (ip : (popM s.clear ⟨19, ok, oa, ob, oc, a, b, c, n, t, p, back, ret⟩).is = false) (ib : (brM s.clear ⟨19, ok, oa, ob, oc, a, b, c, n, t, p, back, ret⟩).is = false) :
    Calls Try.prog 150 #[.pointer (some ⟨h, 0, none⟩), .int .i64 mm, (⟨19, ok, oa, ob, oc, a, b, c, n, t, p, back, ret⟩ : MutV).val] w fun e w' => e = .returned (.tuple #[(ownM s.clear mm ⟨19, ok, oa, ob, oc, a, b, c, n, t, p, back, ret⟩).x.val, .bool (ownM s.clear mm ⟨19, ok, oa, ob, oc, a, b, c, n, t, p, back, ret⟩).lin, .bool false]) ∧ HAt w' h ab db (ownM s.clear mm ⟨19, ok, oa, ob, oc, a, b, c, n, t, p, back, ret⟩).s ∧ Fr [h, db] w w' := by
  simp only [ownM, Int.reduceEq, if_false, if_true]
  exact lisp_o H mm ⟨19, ok, oa, ob, oc, a, b, c, n, t, p, back, ret⟩ hx ig it ip ib (fnk := 219) rfl (fun args W => by kernel_rfl) _ _ _ (fun W rb HW X n1 n2 n3 => ln19 HW mm ok oa ob oc a b c n t p back ret (hid (fun W => glob_any HW.right ob W)) X n1 n2 n3)
set_option maxHeartbeats 4000000 in
theorem own20 {w : World} {h ab db : Nat} {s : HS} (H : HAt w h ab db s) (mm ok oa ob oc a b c n t p back ret : Int) (hx : (⟨20, ok, oa, ob, oc, a, b, c, n, t, p, back, ret⟩ : MutV).Wf) (ig : (gateM s.clear mm ⟨20, ok, oa, ob, oc, a, b, c, n, t, p, back, ret⟩).is = false) (it : (tkM s.clear ⟨20, ok, oa, ob, oc, a, b, c, n, t, p, back, ret⟩).is = false) (ip : (popM s.clear ⟨20, ok, oa, ob, oc, a, b, c, n, t, p, back, ret⟩).is = false) (ib : (brM s.clear ⟨20, ok, oa, ob, oc, a, b, c, n, t, p, back, ret⟩).is = false) :
    Calls Try.prog 150 #[.pointer (some ⟨h, 0, none⟩), .int .i64 mm, (⟨20, ok, oa, ob, oc, a, b, c, n, t, p, back, ret⟩ : MutV).val] w fun e w' => e = .returned (.tuple #[(ownM s.clear mm ⟨20, ok, oa, ob, oc, a, b, c, n, t, p, back, ret⟩).x.val, .bool (ownM s.clear mm ⟨20, ok, oa, ob, oc, a, b, c, n, t, p, back, ret⟩).lin, .bool false]) ∧ HAt w' h ab db (ownM s.clear mm ⟨20, ok, oa, ob, oc, a, b, c, n, t, p, back, ret⟩).s ∧ Fr [h, db] w w' := by
  simp only [ownM, Int.reduceEq, if_false, if_true]
  exact lisp_o H mm ⟨20, ok, oa, ob, oc, a, b, c, n, t, p, back, ret⟩ hx ig it ip ib (fnk := 220) rfl (fun args W => by kernel_rfl) _ _ _ (fun W rb HW X n1 n2 n3 => ln20 HW mm ok oa ob oc a b c n t p back ret X n1 n2 n3)
set_option maxHeartbeats 4000000 in
theorem own21 {w : World} {h ab db : Nat} {s : HS} (H : HAt w h ab db s) (mm ok oa ob oc a b c n t p back ret : Int) (hx : (⟨21, ok, oa, ob, oc, a, b, c, n, t, p, back, ret⟩ : MutV).Wf) (ig : (gateM s.clear mm ⟨21, ok, oa, ob, oc, a, b, c, n, t, p, back, ret⟩).is = false) (it : (tkM s.clear ⟨21, ok, oa, ob, oc, a, b, c, n, t, p, back, ret⟩).is = false) (ip : (popM s.clear ⟨21, ok, oa, ob, oc, a, b, c, n, t, p, back, ret⟩).is = false) (ib : (brM s.clear ⟨21, ok, oa, ob, oc, a, b, c, n, t, p, back, ret⟩).is = false) :
    Calls Try.prog 150 #[.pointer (some ⟨h, 0, none⟩), .int .i64 mm, (⟨21, ok, oa, ob, oc, a, b, c, n, t, p, back, ret⟩ : MutV).val] w fun e w' => e = .returned (.tuple #[(ownM s.clear mm ⟨21, ok, oa, ob, oc, a, b, c, n, t, p, back, ret⟩).x.val, .bool (ownM s.clear mm ⟨21, ok, oa, ob, oc, a, b, c, n, t, p, back, ret⟩).lin, .bool false]) ∧ HAt w' h ab db (ownM s.clear mm ⟨21, ok, oa, ob, oc, a, b, c, n, t, p, back, ret⟩).s ∧ Fr [h, db] w w' := by
  simp only [ownM, Int.reduceEq, if_false, if_true]
  simp only [brBegin]
  by_cases hc : isCell b = true
  · rw [if_pos hc]
    exact lisp_o H mm ⟨21, ok, oa, ob, oc, a, b, c, n, t, p, back, ret⟩ hx ig it ip ib (fnk := 221) rfl (fun args W => by kernel_rfl) _ _ _ (fun W rb HW X n1 n2 n3 => ln21y HW mm ok oa ob oc a b c n t p back ret hx.b.1 hx.b.2 (hid (fun W => glob_any HW.right oa W)) hc X n1 n2 n3)
  · rw [if_neg hc]
    exact lisp_o H mm ⟨21, ok, oa, ob, oc, a, b, c, n, t, p, back, ret⟩ hx ig it ip ib (fnk := 221) rfl (fun args W => by kernel_rfl) _ _ _ (fun W rb HW X n1 n2 n3 => ln21n HW mm ok oa ob oc a b c n t p back ret hx.b.1 hx.b.2 (hid (fun W => glob_any HW.right oa W)) (ofB hc) X n1 n2 n3)
set_option maxHeartbeats 4000000 in
theorem own22 {w : World} {h ab db : Nat} {s : HS} (H : HAt w h ab db s) (mm ok oa ob oc a b c n t p back ret : Int) (hx : (⟨22, ok, oa, ob, oc, a, b, c, n, t, p, back, ret⟩ : MutV).Wf) (ig : (gateM s.clear mm ⟨22, ok, oa, ob, oc, a, b, c, n, t, p, back, ret⟩).is = false) (it : (tkM s.clear ⟨22, ok, oa, ob, oc, a, b, c, n, t, p, back, ret⟩).is = false) (ip : (popM s.clear ⟨22, ok, oa, ob, oc, a, b, c, n, t, p, back, ret⟩).is = false) (ib : (brM s.clear ⟨22, ok, oa, ob, oc, a, b, c, n, t, p, back, ret⟩).is = false) :
    Calls Try.prog 150 #[.pointer (some ⟨h, 0, none⟩), .int .i64 mm, (⟨22, ok, oa, ob, oc, a, b, c, n, t, p, back, ret⟩ : MutV).val] w fun e w' => e = .returned (.tuple #[(ownM s.clear mm ⟨22, ok, oa, ob, oc, a, b, c, n, t, p, back, ret⟩).x.val, .bool (ownM s.clear mm ⟨22, ok, oa, ob, oc, a, b, c, n, t, p, back, ret⟩).lin, .bool false]) ∧ HAt w' h ab db (ownM s.clear mm ⟨22, ok, oa, ob, oc, a, b, c, n, t, p, back, ret⟩).s ∧ Fr [h, db] w w' := by
  simp only [ownM, Int.reduceEq, if_false, if_true]
  exact lisp_o H mm ⟨22, ok, oa, ob, oc, a, b, c, n, t, p, back, ret⟩ hx ig it ip ib (fnk := 222) rfl (fun args W => by kernel_rfl) _ _ _ (fun W rb HW X n1 n2 n3 => ln22 HW mm ok oa ob oc a b c n t p back ret X n1 n2 n3)
set_option maxHeartbeats 4000000 in
theorem own23 {w : World} {h ab db : Nat} {s : HS} (H : HAt w h ab db s) (mm ok oa ob oc a b c n t p back ret : Int) (hx : (⟨23, ok, oa, ob, oc, a, b, c, n, t, p, back, ret⟩ : MutV).Wf) (ig : (gateM s.clear mm ⟨23, ok, oa, ob, oc, a, b, c, n, t, p, back, ret⟩).is = false) (it : (tkM s.clear ⟨23, ok, oa, ob, oc, a, b, c, n, t, p, back, ret⟩).is = false) (ip : (popM s.clear ⟨23, ok, oa, ob, oc, a, b, c, n, t, p, back, ret⟩).is = false) (ib : (brM s.clear ⟨23, ok, oa, ob, oc, a, b, c, n, t, p, back, ret⟩).is = false) :
    Calls Try.prog 150 #[.pointer (some ⟨h, 0, none⟩), .int .i64 mm, (⟨23, ok, oa, ob, oc, a, b, c, n, t, p, back, ret⟩ : MutV).val] w fun e w' => e = .returned (.tuple #[(ownM s.clear mm ⟨23, ok, oa, ob, oc, a, b, c, n, t, p, back, ret⟩).x.val, .bool (ownM s.clear mm ⟨23, ok, oa, ob, oc, a, b, c, n, t, p, back, ret⟩).lin, .bool false]) ∧ HAt w' h ab db (ownM s.clear mm ⟨23, ok, oa, ob, oc, a, b, c, n, t, p, back, ret⟩).s ∧ Fr [h, db] w w' := by
  simp only [ownM, Int.reduceEq, if_false, if_true]
  by_cases hc : a = wAt s.clear.ws (s.clear.c.regP mm ob)
  · rw [if_pos hc]
    exact lisp_o H mm ⟨23, ok, oa, ob, oc, a, b, c, n, t, p, back, ret⟩ hx ig it ip ib (fnk := 223) rfl (fun args W => by kernel_rfl) _ _ _ (fun W rb HW X n1 n2 n3 => ln23y HW mm ok oa ob oc a b c n t p back ret hc X n1 n2 n3)
  · rw [if_neg hc]
    exact lisp_o H mm ⟨23, ok, oa, ob, oc, a, b, c, n, t, p, back, ret⟩ hx ig it ip ib (fnk := 223) rfl (fun args W => by kernel_rfl) _ _ _ (fun W rb HW X n1 n2 n3 => ln23n HW mm ok oa ob oc a b c n t p back ret hc X n1 n2 n3)
set_option maxHeartbeats 4000000 in
theorem own24 {w : World} {h ab db : Nat} {s : HS} (H : HAt w h ab db s) (mm ok oa ob oc a b c n t p back ret : Int) (hx : (⟨24, ok, oa, ob, oc, a, b, c, n, t, p, back, ret⟩ : MutV).Wf) (ig : (gateM s.clear mm ⟨24, ok, oa, ob, oc, a, b, c, n, t, p, back, ret⟩).is = false) (it : (tkM s.clear ⟨24, ok, oa, ob, oc, a, b, c, n, t, p, back, ret⟩).is = false) (ip : (popM s.clear ⟨24, ok, oa, ob, oc, a, b, c, n, t, p, back, ret⟩).is = false) (ib : (brM s.clear ⟨24, ok, oa, ob, oc, a, b, c, n, t, p, back, ret⟩).is = false) :
    Calls Try.prog 150 #[.pointer (some ⟨h, 0, none⟩), .int .i64 mm, (⟨24, ok, oa, ob, oc, a, b, c, n, t, p, back, ret⟩ : MutV).val] w fun e w' => e = .returned (.tuple #[(ownM s.clear mm ⟨24, ok, oa, ob, oc, a, b, c, n, t, p, back, ret⟩).x.val, .bool (ownM s.clear mm ⟨24, ok, oa, ob, oc, a, b, c, n, t, p, back, ret⟩).lin, .bool false]) ∧ HAt w' h ab db (ownM s.clear mm ⟨24, ok, oa, ob, oc, a, b, c, n, t, p, back, ret⟩).s ∧ Fr [h, db] w w' := by
  simp only [ownM, Int.reduceEq, if_false, if_true]
  by_cases hc : isCell (wAt s.clear.ws (s.clear.c.regP mm oa)) = true
  · rw [if_pos hc]
    exact lisp_o H mm ⟨24, ok, oa, ob, oc, a, b, c, n, t, p, back, ret⟩ hx ig it ip ib (fnk := 225) rfl (fun args W => by kernel_rfl) _ _ _ (fun W rb HW X n1 n2 n3 => ln24y HW mm ok oa ob oc a b c n t p back ret hc X n1 n2 n3)
  · rw [if_neg hc]
    exact lisp_o H mm ⟨24, ok, oa, ob, oc, a, b, c, n, t, p, back, ret⟩ hx ig it ip ib (fnk := 225) rfl (fun args W => by kernel_rfl) _ _ _ (fun W rb HW X n1 n2 n3 => ln24n HW mm ok oa ob oc a b c n t p back ret (ofB hc) X n1 n2 n3)
set_option maxHeartbeats 4000000 in
theorem own30 {w : World} {h ab db : Nat} {s : HS} (H : HAt w h ab db s) (mm ok oa ob oc a b c n t p back ret : Int) (hx : (⟨30, ok, oa, ob, oc, a, b, c, n, t, p, back, ret⟩ : MutV).Wf) (ig : (gateM s.clear mm ⟨30, ok, oa, ob, oc, a, b, c, n, t, p, back, ret⟩).is = false) (it : (tkM s.clear ⟨30, ok, oa, ob, oc, a, b, c, n, t, p, back, ret⟩).is = false) (ip : (popM s.clear ⟨30, ok, oa, ob, oc, a, b, c, n, t, p, back, ret⟩).is = false) (ib : (brM s.clear ⟨30, ok, oa, ob, oc, a, b, c, n, t, p, back, ret⟩).is = false) :
    Calls Try.prog 150 #[.pointer (some ⟨h, 0, none⟩), .int .i64 mm, (⟨30, ok, oa, ob, oc, a, b, c, n, t, p, back, ret⟩ : MutV).val] w fun e w' => e = .returned (.tuple #[(ownM s.clear mm ⟨30, ok, oa, ob, oc, a, b, c, n, t, p, back, ret⟩).x.val, .bool (ownM s.clear mm ⟨30, ok, oa, ob, oc, a, b, c, n, t, p, back, ret⟩).lin, .bool false]) ∧ HAt w' h ab db (ownM s.clear mm ⟨30, ok, oa, ob, oc, a, b, c, n, t, p, back, ret⟩).s ∧ Fr [h, db] w w' := by
  simp only [ownM, Int.reduceEq, if_false, if_true]
  exact lisp_o H mm ⟨30, ok, oa, ob, oc, a, b, c, n, t, p, back, ret⟩ hx ig it ip ib (fnk := 226) rfl (fun args W => by kernel_rfl) _ _ _ (fun W rb HW X n1 n2 n3 => ln30 HW mm ok oa ob oc a b c n t p back ret X n1 n2 n3)
set_option maxHeartbeats 4000000 in
theorem own31 {w : World} {h ab db : Nat} {s : HS} (H : HAt w h ab db s) (mm ok oa ob oc a b c n t p back ret : Int) (hx : (⟨31, ok, oa, ob, oc, a, b, c, n, t, p, back, ret⟩ : MutV).Wf) (ig : (gateM s.clear mm ⟨31, ok, oa, ob, oc, a, b, c, n, t, p, back, ret⟩).is = false) (it : (tkM s.clear ⟨31, ok, oa, ob, oc, a, b, c, n, t, p, back, ret⟩).is = false) (ip : (popM s.clear ⟨31, ok, oa, ob, oc, a, b, c, n, t, p, back, ret⟩).is = false) (ib : (brM s.clear ⟨31, ok, oa, ob, oc, a, b, c, n, t, p, back, ret⟩).is = false) :
    Calls Try.prog 150 #[.pointer (some ⟨h, 0, none⟩), .int .i64 mm, (⟨31, ok, oa, ob, oc, a, b, c, n, t, p, back, ret⟩ : MutV).val] w fun e w' => e = .returned (.tuple #[(ownM s.clear mm ⟨31, ok, oa, ob, oc, a, b, c, n, t, p, back, ret⟩).x.val, .bool (ownM s.clear mm ⟨31, ok, oa, ob, oc, a, b, c, n, t, p, back, ret⟩).lin, .bool false]) ∧ HAt w' h ab db (ownM s.clear mm ⟨31, ok, oa, ob, oc, a, b, c, n, t, p, back, ret⟩).s ∧ Fr [h, db] w w' := by
  simp only [ownM, Int.reduceEq, if_false, if_true]
  exact lisp_o H mm ⟨31, ok, oa, ob, oc, a, b, c, n, t, p, back, ret⟩ hx ig it ip ib (fnk := 227) rfl (fun args W => by kernel_rfl) _ _ _ (fun W rb HW X n1 n2 n3 => ln31 HW mm ok oa ob oc a b c n t p back ret X n1 n2 n3)
set_option maxHeartbeats 4000000 in
theorem own38 {w : World} {h ab db : Nat} {s : HS} (H : HAt w h ab db s) (mm ok oa ob oc a b c n t p back ret : Int) (hx : (⟨38, ok, oa, ob, oc, a, b, c, n, t, p, back, ret⟩ : MutV).Wf) (ig : (gateM s.clear mm ⟨38, ok, oa, ob, oc, a, b, c, n, t, p, back, ret⟩).is = false) (it : (tkM s.clear ⟨38, ok, oa, ob, oc, a, b, c, n, t, p, back, ret⟩).is = false) (ip : (popM s.clear ⟨38, ok, oa, ob, oc, a, b, c, n, t, p, back, ret⟩).is = false) (ib : (brM s.clear ⟨38, ok, oa, ob, oc, a, b, c, n, t, p, back, ret⟩).is = false) :
    Calls Try.prog 150 #[.pointer (some ⟨h, 0, none⟩), .int .i64 mm, (⟨38, ok, oa, ob, oc, a, b, c, n, t, p, back, ret⟩ : MutV).val] w fun e w' => e = .returned (.tuple #[(ownM s.clear mm ⟨38, ok, oa, ob, oc, a, b, c, n, t, p, back, ret⟩).x.val, .bool (ownM s.clear mm ⟨38, ok, oa, ob, oc, a, b, c, n, t, p, back, ret⟩).lin, .bool false]) ∧ HAt w' h ab db (ownM s.clear mm ⟨38, ok, oa, ob, oc, a, b, c, n, t, p, back, ret⟩).s ∧ Fr [h, db] w w' := by
  simp only [ownM, Int.reduceEq, if_false, if_true]
  simp only [brBegin]
  by_cases hc : isCell a = true
  · rw [if_pos hc]
    exact lisp_o H mm ⟨38, ok, oa, ob, oc, a, b, c, n, t, p, back, ret⟩ hx ig it ip ib (fnk := 228) rfl (fun args W => by kernel_rfl) _ _ _ (fun W rb HW X n1 n2 n3 => ln38y HW mm ok oa ob oc a b c n t p back ret hx.c.1 hx.c.2 hx.a.1 hx.a.2 hc X n1 n2 n3)
  · rw [if_neg hc]
    exact lisp_o H mm ⟨38, ok, oa, ob, oc, a, b, c, n, t, p, back, ret⟩ hx ig it ip ib (fnk := 228) rfl (fun args W => by kernel_rfl) _ _ _ (fun W rb HW X n1 n2 n3 => ln38n HW mm ok oa ob oc a b c n t p back ret hx.c.1 hx.c.2 hx.a.1 hx.a.2 (ofB hc) X n1 n2 n3)
set_option maxHeartbeats 4000000 in
theorem own39 {w : World} {h ab db : Nat} {s : HS} (H : HAt w h ab db s) (mm ok oa ob oc a b c n t p back ret : Int) (hx : (⟨39, ok, oa, ob, oc, a, b, c, n, t, p, back, ret⟩ : MutV).Wf) (ig : (gateM s.clear mm ⟨39, ok, oa, ob, oc, a, b, c, n, t, p, back, ret⟩).is = false) (it : (tkM s.clear ⟨39, ok, oa, ob, oc, a, b, c, n, t, p, back, ret⟩).is = false) (ip : (popM s.clear ⟨39, ok, oa, ob, oc, a, b, c, n, t, p, back, ret⟩).is = false) (ib : (brM s.clear ⟨39, ok, oa, ob, oc, a, b, c, n, t, p, back, ret⟩).is = false) :
    Calls Try.prog 150 #[.pointer (some ⟨h, 0, none⟩), .int .i64 mm, (⟨39, ok, oa, ob, oc, a, b, c, n, t, p, back, ret⟩ : MutV).val] w fun e w' => e = .returned (.tuple #[(ownM s.clear mm ⟨39, ok, oa, ob, oc, a, b, c, n, t, p, back, ret⟩).x.val, .bool (ownM s.clear mm ⟨39, ok, oa, ob, oc, a, b, c, n, t, p, back, ret⟩).lin, .bool false]) ∧ HAt w' h ab db (ownM s.clear mm ⟨39, ok, oa, ob, oc, a, b, c, n, t, p, back, ret⟩).s ∧ Fr [h, db] w w' := by
  simp only [ownM, Int.reduceEq, if_false, if_true]
  simp only [brBegin]
  by_cases hc : isCell b = true
  · rw [if_pos hc]
    exact lisp_o H mm ⟨39, ok, oa, ob, oc, a, b, c, n, t, p, back, ret⟩ hx ig it ip ib (fnk := 229) rfl (fun args W => by kernel_rfl) _ _ _ (fun W rb HW X n1 n2 n3 => ln39y HW mm ok oa ob oc a b c n t p back ret hx.c.1 hx.c.2 hx.b.1 hx.b.2 hc X n1 n2 n3)
  · rw [if_neg hc]
    exact lisp_o H mm ⟨39, ok, oa, ob, oc, a, b, c, n, t, p, back, ret⟩ hx ig it ip ib (fnk := 229) rfl (fun args W => by kernel_rfl) _ _ _ (fun W rb HW X n1 n2 n3 => ln39n HW mm ok oa ob oc a b c n t p back ret hx.c.1 hx.c.2 hx.b.1 hx.b.2 (ofB hc) X n1 n2 n3)
set_option maxHeartbeats 4000000 in
theorem own40 {w : World} {h ab db : Nat} {s : HS} (H : HAt w h ab db s) (mm ok oa ob oc a b c n t p back ret : Int) (hx : (⟨40, ok, oa, ob, oc, a, b, c, n, t, p, back, ret⟩ : MutV).Wf) (ig : (gateM s.clear mm ⟨40, ok, oa, ob, oc, a, b, c, n, t, p, back, ret⟩).is = false) (it : (tkM s.clear ⟨40, ok, oa, ob, oc, a, b, c, n, t, p, back, ret⟩).is = false) (ip : (popM s.clear ⟨40, ok, oa, ob, oc, a, b, c, n, t, p, back, ret⟩).is = false) (ib : (brM s.clear ⟨40, ok, oa, ob, oc, a, b, c, n, t, p, back, ret⟩).is = false) :
    Calls Try.prog 150 #[.pointer (some ⟨h, 0, none⟩), .int .i64 mm, (⟨40, ok, oa, ob, oc, a, b, c, n, t, p, back, ret⟩ : MutV).val] w fun e w' => e = .returned (.tuple #[(ownM s.clear mm ⟨40, ok, oa, ob, oc, a, b, c, n, t, p, back, ret⟩).x.val, .bool (ownM s.clear mm ⟨40, ok, oa, ob, oc, a, b, c, n, t, p, back, ret⟩).lin, .bool false]) ∧ HAt w' h ab db (ownM s.clear mm ⟨40, ok, oa, ob, oc, a, b, c, n, t, p, back, ret⟩).s ∧ Fr [h, db] w w' := by
  simp only [ownM, Int.reduceEq, if_false, if_true]
  simp only [brBegin]
  by_cases hc : isCell c = true
  · rw [if_pos hc]
    exact lisp_o H mm ⟨40, ok, oa, ob, oc, a, b, c, n, t, p, back, ret⟩ hx ig it ip ib (fnk := 230) rfl (fun args W => by kernel_rfl) _ _ _ (fun W rb HW X n1 n2 n3 => ln40y HW mm ok oa ob oc a b c n t p back ret hx.c.1 hx.c.2 hc X n1 n2 n3)
  · rw [if_neg hc]
    exact lisp_o H mm ⟨40, ok, oa, ob, oc, a, b, c, n, t, p, back, ret⟩ hx ig it ip ib (fnk := 230) rfl (fun args W => by kernel_rfl) _ _ _ (fun W rb HW X n1 n2 n3 => ln40n HW mm ok oa ob oc a b c n t p back ret hx.c.1 hx.c.2 (ofB hc) X n1 n2 n3)
theorem ownM_done (s : HS) (m : Int) (x : MutV) : (ownM s m x).done = false := by
  unfold ownM
  simp only [apply_ite LiR.done, ite_self]
theorem lisp_any {w : World} {h ab db : Nat} {s : HS} (H : HAt w h ab db s) (mm : Int) (x : MutV) (hx : x.Wf) :
    Calls Try.prog 150 #[.pointer (some ⟨h, 0, none⟩), .int .i64 mm, x.val] w fun e w' => e = .returned (.tuple #[(lispM s mm x).x.val, .bool (lispM s mm x).lin, .bool (lispM s mm x).done]) ∧ HAt w' h ab db (lispM s mm x).s ∧ Fr [h, db] w w' := by
  unfold lispM lispStep
  by_cases ig : (gateM s.clear mm x).is = true
  · rw [if_pos ig]; exact lisp_g H mm x hx ig
  rw [if_neg ig]
  replace ig := ofB ig
  by_cases it : (tkM s.clear x).is = true
  · rw [if_pos it]; exact lisp_t H mm x hx ig it
  rw [if_neg it]
  replace it := ofB it
  by_cases ip : (popM s.clear x).is = true
  · rw [if_pos ip]; exact lisp_p H mm x hx ig it ip
  rw [if_neg ip]
  replace ip := ofB ip
  by_cases ib : (brM s.clear x).is = true
  · rw [if_pos ib]; exact lisp_b H mm x hx ig it ip ib
  rw [if_neg ib, ownM_done]
  replace ib := ofB ib
  obtain ⟨line, ok, oa, ob, oc, a, b, c, n, t, p, back, ret⟩ := x
  by_cases l10 : line = 10
  · subst l10; exact own10 H mm ok oa ob oc a b c n t p back ret hx ig it ip ib
  by_cases l11 : line = 11
  · subst l11; exact own11 H mm ok oa ob oc a b c n t p back ret hx ig it ip ib
  by_cases l12 : line = 12
  · subst l12; exact own12 H mm ok oa ob oc a b c n t p back ret hx ig it ip ib
  by_cases l13 : line = 13
  · subst l13; exact own13 H mm ok oa ob oc a b c n t p back ret hx ig it ip ib
  by_cases l14 : line = 14
  · subst l14; exact own14 H mm ok oa ob oc a b c n t p back ret hx ig it ip ib
  by_cases l15 : line = 15
  · subst l15; exact own15 H mm ok oa ob oc a b c n t p back ret hx ig it ip ib
  by_cases l16 : line = 16
  · subst l16; exact own16 H mm ok oa ob oc a b c n t p back ret hx ig it ip ib
  by_cases l17 : line = 17
  · subst l17; exact own17 H mm ok oa ob oc a b c n t p back ret hx ig it ip ib
  by_cases l18 : line = 18
  · subst l18; exact own18 H mm ok oa ob oc a b c n t p back ret hx ig it ip ib
  by_cases l19 : line = 19
  · subst l19; exact own19 H mm ok oa ob oc a b c n t p back ret hx ig it ip ib
  by_cases l20 : line = 20
  · subst l20; exact own20 H mm ok oa ob oc a b c n t p back ret hx ig it ip ib
  by_cases l21 : line = 21
  · subst l21; exact own21 H mm ok oa ob oc a b c n t p back ret hx ig it ip ib
  by_cases l22 : line = 22
  · subst l22; exact own22 H mm ok oa ob oc a b c n t p back ret hx ig it ip ib
  by_cases l23 : line = 23
  · subst l23; exact own23 H mm ok oa ob oc a b c n t p back ret hx ig it ip ib
  by_cases l24 : line = 24
  · subst l24; exact own24 H mm ok oa ob oc a b c n t p back ret hx ig it ip ib
  by_cases l30 : line = 30
  · subst l30; exact own30 H mm ok oa ob oc a b c n t p back ret hx ig it ip ib
  by_cases l31 : line = 31
  · subst l31; exact own31 H mm ok oa ob oc a b c n t p back ret hx ig it ip ib
  by_cases l38 : line = 38
  · subst l38; exact own38 H mm ok oa ob oc a b c n t p back ret hx ig it ip ib
  by_cases l39 : line = 39
  · subst l39; exact own39 H mm ok oa ob oc a b c n t p back ret hx ig it ip ib
  by_cases l40 : line = 40
  · subst l40; exact own40 H mm ok oa ob oc a b c n t p back ret hx ig it ip ib
  have hn : mget linesL line = none := lines_none line ⟨l10, l11, l12, l13, l14, l15, l16, l17, l18, l19, l20, l21, l22, l23, l24, l30, l31, l38, l39, l40⟩
  have e : ownM s.clear mm ⟨line, ok, oa, ob, oc, a, b, c, n, t, p, back, ret⟩ = ⟨⟨line, ok, oa, ob, oc, a, b, c, n, t, p, back, ret⟩, false, false, s.clear⟩ := by
    unfold ownM
    simp only [l10, l11, l12, l13, l14, l15, l16, l17, l18, l19, l20, l21, l22, l23, l24, l30, l31, l38, l39, l40, if_false]
  rw [e]
  exact lisp_n H mm ⟨line, ok, oa, ob, oc, a, b, c, n, t, p, back, ret⟩ hx ig it ip ib hn

end Go.Proofs.Ytolkgdchinaonaa
