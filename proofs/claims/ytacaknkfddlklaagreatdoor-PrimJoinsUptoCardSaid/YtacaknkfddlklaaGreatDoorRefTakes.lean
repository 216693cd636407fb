/- Contract of the reference's Takes. -/
import Derived.Test.YtacaknkfddlklaaGreatDoorTakes
set_option linter.unusedVariables false
set_option linter.unusedSimpArgs false
namespace Go.Proofs.YtacaknkfddlklaaGreatDoor
open Go.RowKit Go.IntWalk

/-- takesS, by whole numbers alone -/
theorem takes_i (op operand : Int) (x : V) (h23 : op ≠ 23) (h24 : op ≠ 24) : takesS op operand x = if 10 ≤ op ∧ op ≤ 37 then (if op = 15 ∨ op = 16 ∨ op = 26 ∨ op = 27 ∨ op = 33 ∨ op = 35 ∨ op = 36 ∨ op = 37 then 1 else if op = 29 ∨ op = 30 ∨ op = 31 then 3 else 2) else 0 := by
  by_cases hp : 10 ≤ op ∧ op ≤ 37
  · obtain ⟨k, rfl⟩ : ∃ k : Nat, op = (k : Int) := ⟨op.toNat, by omega⟩
    have hpb : pureB (k : Int) = true := by simp [pureB]; omega
    rw [takesS, hpb, if_neg (by simp), if_neg h23, if_neg h24, if_pos hp, Int.toNat_natCast, tkS]
    have e : ∀ n : Nat, ((k : Int) = (n : Int)) ↔ k = n := fun n => by omega
    have e15 := e 15; have e16 := e 16; have e26 := e 26; have e27 := e 27; have e33 := e 33; have e35 := e 35; have e36 := e 36; have e37 := e 37; have e29 := e 29; have e30 := e 30; have e31 := e 31
    have c1 : ((k : Int) = 15 ∨ (k : Int) = 16 ∨ (k : Int) = 26 ∨ (k : Int) = 27 ∨ (k : Int) = 33 ∨ (k : Int) = 35 ∨ (k : Int) = 36 ∨ (k : Int) = 37) ↔ (k = 15 ∨ k = 16 ∨ k = 26 ∨ k = 27 ∨ k = 33 ∨ k = 35 ∨ k = 36 ∨ k = 37) := by omega
    have c2 : ((k : Int) = 29 ∨ (k : Int) = 30 ∨ (k : Int) = 31) ↔ (k = 29 ∨ k = 30 ∨ k = 31) := by omega
    simp only [c1, c2]
  · have hpb : pureB op = false := by simp [pureB]; omega
    rw [takesS, hpb, if_pos rfl, if_neg hp]
set_option maxRecDepth 20000 in
set_option maxHeartbeats 1000000 in
theorem ref_Takes (op operand : Int) (x : V) (v : Value) (ok : Nat → Prop) (w : World) (hv : RdV ok w v x) :
    Calls Tryz.prog 21 #[.int .i64 op, .int .i64 operand, v] w fun e w' => e = .returned (.int .i64 (takesS op operand x)) ∧ Below w.heap.size w w' := by
  obtain ⟨A, c, B, d, rfl, h1, h2, h3, h4, h5, h6, h7⟩ := hv.form
  have Hv := Lib.hid hv
  clear hv
  have hb1 : ∀ O : Obj, Below w.heap.size w (w.alloc O) := fun O => (Below.refl _ _).alloc (Nat.le_refl _) O
  have hbx := rbox5 w (.int .i64 x.kind) (.int .i64 x.num) (.string ⟨x.str.toArray⟩) (.slice A x.parts.length c) (.slice B x.keys.length d) 25
  by_cases k23 : op = 23
  · subst k23
    have ht : takesS 23 operand x = if 0 ≤ operand ∧ operand ≤ 40 then operand else 0 := by simp [takesS, pureB]
    have Ht := Lib.hid ht
    clear ht hbx
    go_enter Tryz.func21, Tryz.ntmps21
    go_wp2_with fail
    all_goals go_ret
    all_goals rw [Ht.out]
    all_goals refine ⟨ret_i64 ?_, hb1 _⟩
    all_goals first | (rw [if_pos (by omega)]; done) | (rw [if_neg (by omega)]; done)
  by_cases k24 : op = 24
  · subst k24
    have hr := fun W => ref_Right x (valV x A c B d) ok W
    have HBX := Lib.hid hbx
    have ht : takesS 24 operand x = if x.kind = 4 ∧ x.parts.length ≤ 40 ∧ rightB x = true then (x.parts.length : Int) else 0 := by simp [takesS, pureB]
    have Ht := Lib.hid ht
    clear ht hbx k23
    cases hrb : rightB x with
    | true =>
      rw [hrb] at hr
      have HR := Lib.hid hr
      have Hrb := Lib.hid hrb
      clear hr hrb
      go_enter Tryz.func21, Tryz.ntmps21
      go_wp2_with fail
      refine (HR.out _ (Hv.out.below (hb1 _))).mono ?_
      rintro e w3 ⟨rfl, hb3⟩
      obtain ⟨x0, x1, x2, x3, x4, hx, c0, c1, c2, c3, c4⟩ := HBX.out.below hb3
      injection hx with hx
      simp only [Array.mk.injEq, List.cons.injEq, and_true] at hx
      obtain ⟨rfl, rfl, rfl, rfl, rfl⟩ := hx
      simp only [Nat.zero_add] at c0 c1 c2 c3 c4
      go_wp2_with fail
      all_goals go_ret
      all_goals rw [Ht.out]
      all_goals refine ⟨ret_i64 ?_, bthen (hb1 _) hb3⟩
      all_goals have hrb := Hrb.out
      all_goals simp only [hrb, and_true]
      all_goals try simp only [bne_iff_ne, ne_eq, bne_eq_false_iff_eq] at *
      all_goals first | (rw [if_pos (by omega)]; done) | (rw [if_neg (by omega)]; done)
    | false =>
      rw [hrb] at hr
      have HR := Lib.hid hr
      have Hrb := Lib.hid hrb
      clear hr hrb
      go_enter Tryz.func21, Tryz.ntmps21
      go_wp2_with fail
      refine (HR.out _ (Hv.out.below (hb1 _))).mono ?_
      rintro e w3 ⟨rfl, hb3⟩
      go_wp2_with fail
      all_goals go_ret
      all_goals rw [Ht.out, Hrb.out]
      all_goals exact ⟨ret_i64 (by simp), bthen (hb1 _) hb3⟩
  · have ht := takes_i op operand x k23 k24
    have Ht := Lib.hid ht
    have g23 : (op == 23) = false := by simpa using k23
    have g24 : (op == 24) = false := by simpa using k24
    clear ht hbx k23 k24
    go_enter Tryz.func21, Tryz.ntmps21
    go_wp2_with (go_at_call 20; refine (ref_Pure _ _).mono ?_; rintro e w4 ⟨rfl, rfl⟩)
    all_goals go_ret
    all_goals rw [Ht.out]
    all_goals refine ⟨ret_i64 ?_, hb1 _⟩
    all_goals simp only [beq_iff_eq, beq_eq_false_iff_ne, ne_eq, pureB, Bool.and_eq_true, decide_eq_true_eq, Bool.and_eq_false_iff, decide_eq_false_iff_not] at *
    all_goals repeat' split
    all_goals omega
end Go.Proofs.YtacaknkfddlklaaGreatDoor
