/- PrimTakes, walked. -/
import Derived.Test.YtacaknkfddlklaaGreatDoorPrimShown
set_option linter.unusedVariables false
set_option linter.unusedSimpArgs false
namespace Go.Proofs.YtacaknkfddlklaaGreatDoor
open Go.RowKit Go.IntWalk

set_option maxRecDepth 20000 in
set_option maxHeartbeats 1000000 in
theorem law_PrimTakes (op operand : Int) (x : V) (v : Value) (ok : Nat → Prop) (w : World) (hv : RdV ok w v x) (hl : Hid (CodeLaid w)) :
    Calls Tryz.prog 4 #[.int .i64 op, .int .i64 operand, v] w fun e w' => e = .returned (.bool true) ∧ Below w.heap.size w w' := by
  obtain ⟨A, c, B, d, rfl, h1, h2, h3, h4, h5, h6, h7⟩ := hv.form
  have Hv := Lib.hid hv
  have HX := Lib.hid (rbox5 w (.int .i64 x.kind) (.int .i64 x.num) (.string ⟨x.str.toArray⟩) (.slice A x.parts.length c) (.slice B x.keys.length d) 25)
  have hb1 : ∀ O : Obj, Below w.heap.size w (w.alloc O) := fun O => (Below.refl _ _).alloc (Nat.le_refl _) O
  have HB1 := Lib.hid hb1
  clear hv hb1
  go_enter Tryz.func4, Tryz.ntmps4
  go_wp2_with fail
  refine (prim_shown _ (Lib.hid (hl.out.below (HB1.out _)))).mono ?_
  rintro e w1 ⟨rfl, hb1⟩
  have HX1 := Lib.hid (HX.out.below hb1)
  have Hb1 := Lib.hid (bthen (HB1.out _) hb1)
  clear hb1
  go_wp2_with fail
  refine (prim_Pure _ _).mono ?_
  rintro e w2 ⟨rfl, rfl⟩
  obtain ⟨x0, x1, x2, x3, x4, hx, e0, e1, e2, e3, e4⟩ := HX1.out
  injection hx with hx
  simp only [Array.mk.injEq, List.cons.injEq, and_true] at hx
  obtain ⟨rfl, rfl, rfl, rfl, rfl⟩ := hx
  simp only [Nat.zero_add] at e0 e1 e2 e3 e4
  go_wp2_with fail
  refine (prim_Takes op operand x (valV x A c B d) ok _ (Hv.out.below Hb1.out) (Lib.hid (hl.out.below Hb1.out))).mono ?_
  rintro e w3 ⟨rfl, hb3⟩
  have HX3 := Lib.hid (HX1.out.below hb3)
  have Hb3 := Lib.hid (bthen Hb1.out hb3)
  clear hb3 e0 e1 e2 e3 e4
  obtain ⟨x0, x1, x2, x3, x4, hx, e0, e1, e2, e3, e4⟩ := HX3.out
  injection hx with hx
  simp only [Array.mk.injEq, List.cons.injEq, and_true] at hx
  obtain ⟨rfl, rfl, rfl, rfl, rfl⟩ := hx
  simp only [Nat.zero_add] at e0 e1 e2 e3 e4
  go_wp2_with fail
  refine (ref_Pure _ _).mono ?_
  rintro e w4 ⟨rfl, rfl⟩
  have hpp : (pureB op == pureB op) = true := by simp
  go_wp2_with fail
  refine (ref_Takes op operand x (valV x A c B d) ok _ (Hv.out.below Hb3.out)).mono ?_
  rintro e w5 ⟨rfl, hb5⟩
  have Hb5 := Lib.hid (bthen Hb3.out hb5)
  have htt : (takesS op operand x == takesS op operand x) = true := by simp
  clear hb5
  go_wp2
  go_ret
  exact ⟨rfl, Hb5.out⟩
end Go.Proofs.YtacaknkfddlklaaGreatDoor
