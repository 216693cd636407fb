/- Contracts of prim.Pure and Takes, and of the reference's. -/
import Derived.Test.YtacaknkfddlklaaGreatDoorRight
import Derived.Test.YtacaknkfddlklaaGreatDoorCodeInfo
set_option linter.unusedVariables false
set_option linter.unusedSimpArgs false
namespace Go.Proofs.YtacaknkfddlklaaGreatDoor
open Go.RowKit Go.IntWalk

theorem ret_bool {a b : Bool} (h : a = b) : Ending.returned (.bool a) = .returned (.bool b) := by rw [h]
theorem ret_i64 {a b : Int} (h : a = b) : Ending.returned (.int .i64 a) = .returned (.int .i64 b) := by rw [h]
def pureB (op : Int) : Bool := decide (10 ≤ op) && decide (op ≤ 37)
/-- how many values an operation takes, array and record apart -/
def tkS (k : Nat) : Int := if k = 15 ∨ k = 16 ∨ k = 26 ∨ k = 27 ∨ k = 33 ∨ k = 35 ∨ k = 36 ∨ k = 37 then 1 else if k = 29 ∨ k = 30 ∨ k = 31 then 3 else 2
theorem tk_num : ∀ k : Fin 38, 10 ≤ k.val → k.val ≠ 23 → k.val ≠ 24 → opNum k.val 1 = tkS k.val := by decide
def takesS (op operand : Int) (x : V) : Int :=
  if pureB op = false then 0 else if op = 23 then (if 0 ≤ operand ∧ operand ≤ 40 then operand else 0)
  else if op = 24 then (if x.kind = 4 ∧ x.parts.length ≤ 40 ∧ rightB x = true then x.parts.length else 0) else tkS op.toNat
set_option maxRecDepth 20000 in
set_option maxHeartbeats 400000 in
theorem prim_Pure (op : Int) (w : World) : Calls Tryz.prog 18 #[.int .i64 op] w fun e w' => e = .returned (.bool (pureB op)) ∧ w = w' := by
  go_enter Tryz.func18, Tryz.ntmps18
  go_wp2_with fail
  all_goals go_ret
  all_goals exact ⟨ret_bool (by simp [pureB]; try omega), rfl⟩
set_option maxRecDepth 20000 in
set_option maxHeartbeats 400000 in
theorem ref_Pure (op : Int) (w : World) : Calls Tryz.prog 20 #[.int .i64 op] w fun e w' => e = .returned (.bool (pureB op)) ∧ w = w' := by
  go_enter Tryz.func20, Tryz.ntmps20
  go_wp2_with fail
  all_goals go_ret
  all_goals exact ⟨ret_bool (by simp [pureB]; try omega), rfl⟩

set_option maxRecDepth 20000 in
set_option maxHeartbeats 1000000 in
theorem prim_Takes (op operand : Int) (x : V) (v : Value) (ok : Nat → Prop) (w : World) (hv : RdV ok w v x) (hl : Hid (CodeLaid w)) :
    Calls Tryz.prog 19 #[.int .i64 op, .int .i64 operand, v] w fun e w' => e = .returned (.int .i64 (takesS op operand x)) ∧ Below w.heap.size w w' := by
  obtain ⟨A, c, B, d, rfl, h1, h2, h3, h4, h5, h6, h7⟩ := hv.form
  have Hv := Lib.hid hv
  clear hv
  have hb1 : ∀ O : Obj, Below w.heap.size w (w.alloc O) := fun O => (Below.refl _ _).alloc (Nat.le_refl _) O
  by_cases hp : pureB op = true
  · obtain ⟨k, rfl⟩ : ∃ k : Nat, op = (k : Int) := ⟨op.toNat, by simp [pureB] at hp; omega⟩
    have hk : 10 ≤ k ∧ k ≤ 37 := by simp [pureB] at hp; omega
    have hP := fun W => prim_Pure (k : Int) W
    rw [hp] at hP
    have HP := Lib.hid hP
    have HI := Lib.hid (fun W hW => Info_some k W hW (by omega) (by omega))
    have hbx := rbox5 w (.int .i64 x.kind) (.int .i64 x.num) (.string ⟨x.str.toArray⟩) (.slice A x.parts.length c) (.slice B x.keys.length d) 25
    have HBX := Lib.hid hbx
    have htk : k ≠ 23 → k ≠ 24 → opNum k 1 = tkS k := tk_num ⟨k, by omega⟩ hk.1
    have Htk := Lib.hid htk
    have Hp := Lib.hid hp
    clear hbx htk hP hp
    have hbk : ∀ W : World, Below w.heap.size w W → True := fun _ _ => trivial
    by_cases k23 : k = 23
    · subst k23
      by_cases hr : 0 ≤ operand ∧ operand ≤ 40
      · obtain ⟨hr1, hr2⟩ := hr
        have hres : takesS ((23 : Nat) : Int) operand x = operand := by simp [takesS, pureB, hr1, hr2]
        have Hres := Lib.hid hres
        have Hres' : Hid (takesS 23 operand x = operand) := hres
        clear hres
        go_enter Tryz.func19, Tryz.ntmps19
        go_wp2_with fail
        refine (HI.out _ (Lib.hid (hl.out.below (hb1 _)))).mono ?_
        rintro e w3 ⟨rfl, hb3⟩
        have HB3 := Lib.hid (bthen (hb1 _) hb3)
        go_wp2_with fail
        refine (HP.out _).mono ?_
        rintro e w4 ⟨rfl, rfl⟩
        go_wp2_with fail
        go_ret
        first | rw [Hres.out] | rw [Hres'.out]
        exact ⟨rfl, HB3.out.alloc HB3.out.size _⟩
      · have hres : takesS ((23 : Nat) : Int) operand x = 0 := by simp [takesS, pureB]; omega
        have Hres := Lib.hid hres
        have Hres' : Hid (takesS 23 operand x = 0) := hres
        have hor : ¬ 0 ≤ operand ∨ (0 ≤ operand ∧ ¬ operand ≤ 40) := by omega
        have Hnum : Hid (opNum 23 1 = 0) := by show _ = _; rfl
        clear hres hr
        rcases hor with ho | ⟨ho, ho2⟩
        all_goals
          go_enter Tryz.func19, Tryz.ntmps19
          go_wp2_with fail
          refine (HI.out _ (Lib.hid (hl.out.below (hb1 _)))).mono ?_
          rintro e w3 ⟨rfl, hb3⟩
          have HB3 := Lib.hid (bthen (hb1 _) hb3)
          go_wp2_with fail
          refine (HP.out _).mono ?_
          rintro e w4 ⟨rfl, rfl⟩
          go_wp2_with fail
          go_ret
          first | rw [Hres.out] | rw [Hres'.out]
          exact ⟨ret_i64 Hnum.out, HB3.out.alloc HB3.out.size _⟩
    by_cases k24 : k = 24
    · subst k24
      have Hnum : Hid (opNum 24 1 = 0) := by show _ = _; rfl
      by_cases hk4 : x.kind = 4
      · have q4 : (x.kind == 4) = true := by simpa using hk4
        by_cases hl40 : x.parts.length ≤ 40
        · have hl40' : (x.parts.length : Int) ≤ 40 := by omega
          have hr := fun W hv => value_Right x (valV x A c B d) ok W hv
          cases hrb : rightB x with
          | true =>
            have hres : takesS 24 operand x = x.parts.length := by simp [takesS, pureB, hk4, hl40, hrb]
            have Hres := Lib.hid hres
            rw [hrb] at hr
            have HR := Lib.hid hr
            clear hres hr hrb hk4
            go_enter Tryz.func19, Tryz.ntmps19
            go_wp2_with fail
            refine (HI.out _ (Lib.hid (hl.out.below (hb1 _)))).mono ?_
            rintro e w3 ⟨rfl, hb3⟩
            have HB3 := Lib.hid (bthen (hb1 _) hb3)
            have HX3 := Lib.hid (HBX.out.below hb3)
            have b3 : ∀ O : Obj, Below w3.heap.size w3 (w3.alloc O) := fun O => (Below.refl _ _).alloc (Nat.le_refl _) O
            obtain ⟨x0, x1, x2, x3, x4, hx, c0, c1, c2, c3, c4⟩ := HX3.out
            injection hx with hx
            simp only [Array.mk.injEq, List.cons.injEq, and_true] at hx
            obtain ⟨rfl, rfl, rfl, rfl, rfl⟩ := hx
            simp only [Nat.zero_add] at c0 c1 c2 c3 c4
            have C0 := fun O => bcell (b3 O) c0
            have C1 := fun O => bcell (b3 O) c1
            have C2 := fun O => bcell (b3 O) c2
            have C3 := fun O => bcell (b3 O) c3
            have C4 := fun O => bcell (b3 O) c4
            clear c0 c1 c2 c3 c4 hb3
            go_wp2_with fail
            refine (HP.out _).mono ?_
            rintro e w4 ⟨rfl, rfl⟩
            go_wp2_with fail
            refine (HR.out _ (Hv.out.below (bthen HB3.out (b3 _)))).mono ?_
            rintro e w4 ⟨rfl, hb4⟩
            have D3 := bcell hb4 (C3 _)
            go_wp2_with fail
            go_ret
            first | rw [Hres.out] | rw [show takesS ((24 : Nat) : Int) operand x = _ from Hres.out]
            exact ⟨rfl, bthen (bthen HB3.out (b3 _)) hb4⟩
          | false =>
            have hres : takesS 24 operand x = 0 := by simp [takesS, pureB, hrb]
            have Hres := Lib.hid hres
            rw [hrb] at hr
            have HR := Lib.hid hr
            clear hres hr hrb hk4
            go_enter Tryz.func19, Tryz.ntmps19
            go_wp2_with fail
            refine (HI.out _ (Lib.hid (hl.out.below (hb1 _)))).mono ?_
            rintro e w3 ⟨rfl, hb3⟩
            have HB3 := Lib.hid (bthen (hb1 _) hb3)
            have HX3 := Lib.hid (HBX.out.below hb3)
            have b3 : ∀ O : Obj, Below w3.heap.size w3 (w3.alloc O) := fun O => (Below.refl _ _).alloc (Nat.le_refl _) O
            obtain ⟨x0, x1, x2, x3, x4, hx, c0, c1, c2, c3, c4⟩ := HX3.out
            injection hx with hx
            simp only [Array.mk.injEq, List.cons.injEq, and_true] at hx
            obtain ⟨rfl, rfl, rfl, rfl, rfl⟩ := hx
            simp only [Nat.zero_add] at c0 c1 c2 c3 c4
            have C0 := fun O => bcell (b3 O) c0
            have C1 := fun O => bcell (b3 O) c1
            have C2 := fun O => bcell (b3 O) c2
            have C3 := fun O => bcell (b3 O) c3
            have C4 := fun O => bcell (b3 O) c4
            clear c0 c1 c2 c3 c4 hb3
            go_wp2_with fail
            refine (HP.out _).mono ?_
            rintro e w4 ⟨rfl, rfl⟩
            go_wp2_with fail
            refine (HR.out _ (Hv.out.below (bthen HB3.out (b3 _)))).mono ?_
            rintro e w4 ⟨rfl, hb4⟩
            have D3 := bcell hb4 (show (w3.alloc (.cells #[.string (opNameS 24), .int .i64 (opNum 24 0), .int .i64 (opNum 24 1), .int .i64 (opNum 24 2), .int .i64 (opNum 24 3), .int .i64 (opNum 24 4)] 66)).cell? ⟨w3.heap.size, 2, none⟩ = some (.int .i64 (opNum 24 1)) from World.cell?_alloc_at _ _ _ _ rfl)
            go_wp2_with fail
            go_ret
            first | rw [Hres.out] | rw [show takesS ((24 : Nat) : Int) operand x = _ from Hres.out]
            exact ⟨ret_i64 Hnum.out, bthen (bthen HB3.out (b3 _)) hb4⟩
        · have hl40' : ¬ (x.parts.length : Int) ≤ 40 := by omega
          have hres : takesS 24 operand x = 0 := by simp [takesS, pureB, hl40]
          have Hres := Lib.hid hres
          clear hres hk4
          go_enter Tryz.func19, Tryz.ntmps19
          go_wp2_with fail
          refine (HI.out _ (Lib.hid (hl.out.below (hb1 _)))).mono ?_
          rintro e w3 ⟨rfl, hb3⟩
          have HB3 := Lib.hid (bthen (hb1 _) hb3)
          have HX3 := Lib.hid (HBX.out.below hb3)
          have b3 : ∀ O : Obj, Below w3.heap.size w3 (w3.alloc O) := fun O => (Below.refl _ _).alloc (Nat.le_refl _) O
          obtain ⟨x0, x1, x2, x3, x4, hx, c0, c1, c2, c3, c4⟩ := HX3.out
          injection hx with hx
          simp only [Array.mk.injEq, List.cons.injEq, and_true] at hx
          obtain ⟨rfl, rfl, rfl, rfl, rfl⟩ := hx
          simp only [Nat.zero_add] at c0 c1 c2 c3 c4
          have C0 := fun O => bcell (b3 O) c0
          have C1 := fun O => bcell (b3 O) c1
          have C2 := fun O => bcell (b3 O) c2
          have C3 := fun O => bcell (b3 O) c3
          have C4 := fun O => bcell (b3 O) c4
          clear c0 c1 c2 c3 c4 hb3
          go_wp2_with fail
          refine (HP.out _).mono ?_
          rintro e w4 ⟨rfl, rfl⟩
          go_wp2_with fail
          go_ret
          first | rw [Hres.out] | rw [show takesS ((24 : Nat) : Int) operand x = _ from Hres.out]
          exact ⟨ret_i64 Hnum.out, bthen HB3.out (b3 _)⟩
      · have q4 : (x.kind == 4) = false := by simpa using hk4
        have hres : takesS 24 operand x = 0 := by simp [takesS, pureB, hk4]
        have Hres := Lib.hid hres
        clear hres hk4
        go_enter Tryz.func19, Tryz.ntmps19
        go_wp2_with fail
        refine (HI.out _ (Lib.hid (hl.out.below (hb1 _)))).mono ?_
        rintro e w3 ⟨rfl, hb3⟩
        have HB3 := Lib.hid (bthen (hb1 _) hb3)
        have HX3 := Lib.hid (HBX.out.below hb3)
        have b3 : ∀ O : Obj, Below w3.heap.size w3 (w3.alloc O) := fun O => (Below.refl _ _).alloc (Nat.le_refl _) O
        obtain ⟨x0, x1, x2, x3, x4, hx, c0, c1, c2, c3, c4⟩ := HX3.out
        injection hx with hx
        simp only [Array.mk.injEq, List.cons.injEq, and_true] at hx
        obtain ⟨rfl, rfl, rfl, rfl, rfl⟩ := hx
        simp only [Nat.zero_add] at c0 c1 c2 c3 c4
        have C0 := fun O => bcell (b3 O) c0
        have C1 := fun O => bcell (b3 O) c1
        have C2 := fun O => bcell (b3 O) c2
        have C3 := fun O => bcell (b3 O) c3
        have C4 := fun O => bcell (b3 O) c4
        clear c0 c1 c2 c3 c4 hb3
        go_wp2_with fail
        refine (HP.out _).mono ?_
        rintro e w4 ⟨rfl, rfl⟩
        go_wp2_with fail
        go_ret
        first | rw [Hres.out] | rw [show takesS ((24 : Nat) : Int) operand x = _ from Hres.out]
        exact ⟨ret_i64 Hnum.out, bthen HB3.out (b3 _)⟩
    · have g23 : ((k : Int) == 23) = false := by simp; omega
      have g24 : ((k : Int) == 24) = false := by simp; omega
      have hres : takesS (k : Int) operand x = opNum k 1 := by
        have h1 : ¬ (k : Int) = 23 := by omega
        have h2 : ¬ (k : Int) = 24 := by omega
        rw [Htk.out k23 k24]
        unfold takesS
        rw [Hp.out, if_neg (by simp), if_neg h1, if_neg h2, Int.toNat_natCast]
      have Hres := Lib.hid hres
      clear hres k23 k24
      go_enter Tryz.func19, Tryz.ntmps19
      go_wp2_with fail
      refine (HI.out _ (Lib.hid (hl.out.below (hb1 _)))).mono ?_
      rintro e w3 ⟨rfl, hb3⟩
      have HB3 := Lib.hid (bthen (hb1 _) hb3)
      go_wp2_with fail
      refine (HP.out _).mono ?_
      rintro e w4 ⟨rfl, rfl⟩
      go_wp2_with fail
      go_ret
      rw [Hres.out]
      exact ⟨rfl, HB3.out.alloc HB3.out.size _⟩
  · have hp' : pureB op = false := by simpa using hp
    have hP := fun W => prim_Pure op W
    rw [hp'] at hP
    have HP := Lib.hid hP
    have hres : takesS op operand x = 0 := by simp [takesS, hp']
    have Hres := Lib.hid hres
    clear hP hp hp' hres
    by_cases hop : op < 1 ∨ 41 < op
    · have HI := Lib.hid (fun W => Info_none op W hop)
      clear hop
      go_enter Tryz.func19, Tryz.ntmps19
      go_wp2_with fail
      refine (HI.out _).mono ?_
      rintro e w3 ⟨rfl, hb3⟩
      have HB3 := Lib.hid (bthen (hb1 _) hb3)
      go_wp2_with fail
      refine (HP.out _).mono ?_
      rintro e w4 ⟨rfl, rfl⟩
      go_wp2_with fail
      go_ret
      rw [Hres.out]
      exact ⟨rfl, HB3.out.alloc HB3.out.size _⟩
    · obtain ⟨k, rfl⟩ : ∃ k : Nat, op = (k : Int) := ⟨op.toNat, by omega⟩
      have HI := Lib.hid (fun W hW => Info_some k W hW (by omega) (by omega))
      clear hop
      go_enter Tryz.func19, Tryz.ntmps19
      go_wp2_with fail
      refine (HI.out _ (Lib.hid (hl.out.below (hb1 _)))).mono ?_
      rintro e w3 ⟨rfl, hb3⟩
      have HB3 := Lib.hid (bthen (hb1 _) hb3)
      go_wp2_with fail
      refine (HP.out _).mono ?_
      rintro e w4 ⟨rfl, rfl⟩
      go_wp2_with fail
      go_ret
      rw [Hres.out]
      exact ⟨rfl, HB3.out.alloc HB3.out.size _⟩
end Go.Proofs.YtacaknkfddlklaaGreatDoor
