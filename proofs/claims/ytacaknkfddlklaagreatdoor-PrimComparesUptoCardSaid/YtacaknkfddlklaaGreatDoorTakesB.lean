/- Contracts of prim.Pure and Takes, and of the reference's. Contract of the reference's Takes. Contract of prim.fits, the operation record apart. -/
import Derived.Test.YtacaknkfddlklaaGreatDoorRight
import Derived.Test.YtacaknkfddlklaaGreatDoorCodeB
set_option linter.unusedVariables false
set_option linter.unusedSimpArgs false
namespace Go.Proofs.YtacaknkfddlklaaGreatDoor
open Go.RowKit Go.IntWalk

theorem ret_bool {a b : Bool} (h : a = b) : Ending.returned (.bool a) = .returned (.bool b) := by rw [h]
theorem ret_i64 {a b : Int} (h : a = b) : Ending.returned (.int .i64 a) = .returned (.int .i64 b) := by rw [h]
def pureB (op : Int) : Bool := decide (10 ≤ op) && decide (op ≤ 37)
/-- how many values an operation takes, array and record apart -/
def tkS (k : Nat) : Int := if k = 15 ∨ k = 16 ∨ k = 26 ∨ k = 27 ∨ k = 33 ∨ k = 35 ∨ k = 36 ∨ k = 37 then 1 else if k = 29 ∨ k = 30 ∨ k = 31 then 3 else 2
theorem tk_num : ∀ k : Fin 38, 10 ≤ k.val → k.val ≠ 23 → k.val ≠ 24 → opNum k.val 1 = tkS k.val := by decide
def takesS (op operand : Int) (x : V) : Int :=
  if pureB op = false then 0 else if op = 23 then (if 0 ≤ operand ∧ operand ≤ 40 then operand else 0)
  else if op = 24 then (if x.kind = 4 ∧ x.parts.length ≤ 40 ∧ rightB x = true then x.parts.length else 0) else tkS op.toNat
set_option maxRecDepth 20000 in
set_option maxHeartbeats 400000 in
theorem prim_Pure (op : Int) (w : World) : Calls Tryz.prog 18 #[.int .i64 op] w fun e w' => e = .returned (.bool (pureB op)) ∧ w = w' := by
  go_enter Tryz.func18, Tryz.ntmps18
  go_wp2_with fail
  all_goals go_ret
  all_goals exact ⟨ret_bool (by simp [pureB]; try omega), rfl⟩
set_option maxRecDepth 20000 in
set_option maxHeartbeats 400000 in
theorem ref_Pure (op : Int) (w : World) : Calls Tryz.prog 20 #[.int .i64 op] w fun e w' => e = .returned (.bool (pureB op)) ∧ w = w' := by
  go_enter Tryz.func20, Tryz.ntmps20
  go_wp2_with fail
  all_goals go_ret
  all_goals exact ⟨ret_bool (by simp [pureB]; try omega), rfl⟩

set_option maxRecDepth 20000 in
set_option maxHeartbeats 1000000 in
theorem prim_Takes (op operand : Int) (x : V) (v : Value) (ok : Nat → Prop) (w : World) (hv : RdV ok w v x) (hl : Hid (CodeLaid w)) :
    Calls Tryz.prog 19 #[.int .i64 op, .int .i64 operand, v] w fun e w' => e = .returned (.int .i64 (takesS op operand x)) ∧ Below w.heap.size w w' := by
  obtain ⟨A, c, B, d, rfl, h1, h2, h3, h4, h5, h6, h7⟩ := hv.form
  have Hv := Lib.hid hv
  clear hv
  have hb1 : ∀ O : Obj, Below w.heap.size w (w.alloc O) := fun O => (Below.refl _ _).alloc (Nat.le_refl _) O
  by_cases hp : pureB op = true
  · obtain ⟨k, rfl⟩ : ∃ k : Nat, op = (k : Int) := ⟨op.toNat, by simp [pureB] at hp; omega⟩
    have hk : 10 ≤ k ∧ k ≤ 37 := by simp [pureB] at hp; omega
    have hP := fun W => prim_Pure (k : Int) W
    rw [hp] at hP
    have HP := Lib.hid hP
    have HI := Lib.hid (fun W hW => Info_some k W hW (by omega) (by omega))
    have hbx := rbox5 w (.int .i64 x.kind) (.int .i64 x.num) (.string ⟨x.str.toArray⟩) (.slice A x.parts.length c) (.slice B x.keys.length d) 25
    have HBX := Lib.hid hbx
    have htk : k ≠ 23 → k ≠ 24 → opNum k 1 = tkS k := tk_num ⟨k, by omega⟩ hk.1
    have Htk := Lib.hid htk
    have Hp := Lib.hid hp
    clear hbx htk hP hp
    have hbk : ∀ W : World, Below w.heap.size w W → True := fun _ _ => trivial
    by_cases k23 : k = 23
    · subst k23
      by_cases hr : 0 ≤ operand ∧ operand ≤ 40
      · obtain ⟨hr1, hr2⟩ := hr
        have hres : takesS ((23 : Nat) : Int) operand x = operand := by simp [takesS, pureB, hr1, hr2]
        have Hres := Lib.hid hres
        have Hres' : Hid (takesS 23 operand x = operand) := hres
        clear hres
        go_enter Tryz.func19, Tryz.ntmps19
        go_wp2_with fail
        refine (HI.out _ (Lib.hid (hl.out.below (hb1 _)))).mono ?_
        rintro e w3 ⟨rfl, hb3⟩
        have HB3 := Lib.hid (bthen (hb1 _) hb3)
        go_wp2_with fail
        refine (HP.out _).mono ?_
        rintro e w4 ⟨rfl, rfl⟩
        go_wp2_with fail
        go_ret
        first | rw [Hres.out] | rw [Hres'.out]
        exact ⟨rfl, HB3.out.alloc HB3.out.size _⟩
      · have hres : takesS ((23 : Nat) : Int) operand x = 0 := by simp [takesS, pureB]; omega
        have Hres := Lib.hid hres
        have Hres' : Hid (takesS 23 operand x = 0) := hres
        have hor : ¬ 0 ≤ operand ∨ (0 ≤ operand ∧ ¬ operand ≤ 40) := by omega
        have Hnum : Hid (opNum 23 1 = 0) := by show _ = _; rfl
        clear hres hr
        rcases hor with ho | ⟨ho, ho2⟩
        all_goals
          go_enter Tryz.func19, Tryz.ntmps19
          go_wp2_with fail
          refine (HI.out _ (Lib.hid (hl.out.below (hb1 _)))).mono ?_
          rintro e w3 ⟨rfl, hb3⟩
          have HB3 := Lib.hid (bthen (hb1 _) hb3)
          go_wp2_with fail
          refine (HP.out _).mono ?_
          rintro e w4 ⟨rfl, rfl⟩
          go_wp2_with fail
          go_ret
          first | rw [Hres.out] | rw [Hres'.out]
          exact ⟨ret_i64 Hnum.out, HB3.out.alloc HB3.out.size _⟩
    by_cases k24 : k = 24
    · subst k24
      have Hnum : Hid (opNum 24 1 = 0) := by show _ = _; rfl
      by_cases hk4 : x.kind = 4
      · have q4 : (x.kind == 4) = true := by simpa using hk4
        by_cases hl40 : x.parts.length ≤ 40
        · have hl40' : (x.parts.length : Int) ≤ 40 := by omega
          have hr := fun W hv => value_Right x (valV x A c B d) ok W hv
          cases hrb : rightB x with
          | true =>
            have hres : takesS 24 operand x = x.parts.length := by simp [takesS, pureB, hk4, hl40, hrb]
            have Hres := Lib.hid hres
            rw [hrb] at hr
            have HR := Lib.hid hr
            clear hres hr hrb hk4
            go_enter Tryz.func19, Tryz.ntmps19
            go_wp2_with fail
            refine (HI.out _ (Lib.hid (hl.out.below (hb1 _)))).mono ?_
            rintro e w3 ⟨rfl, hb3⟩
            have HB3 := Lib.hid (bthen (hb1 _) hb3)
            have HX3 := Lib.hid (HBX.out.below hb3)
            have b3 : ∀ O : Obj, Below w3.heap.size w3 (w3.alloc O) := fun O => (Below.refl _ _).alloc (Nat.le_refl _) O
            obtain ⟨x0, x1, x2, x3, x4, hx, c0, c1, c2, c3, c4⟩ := HX3.out
            injection hx with hx
            simp only [Array.mk.injEq, List.cons.injEq, and_true] at hx
            obtain ⟨rfl, rfl, rfl, rfl, rfl⟩ := hx
            simp only [Nat.zero_add] at c0 c1 c2 c3 c4
            have C0 := fun O => bcell (b3 O) c0
            have C1 := fun O => bcell (b3 O) c1
            have C2 := fun O => bcell (b3 O) c2
            have C3 := fun O => bcell (b3 O) c3
            have C4 := fun O => bcell (b3 O) c4
            clear c0 c1 c2 c3 c4 hb3
            go_wp2_with fail
            refine (HP.out _).mono ?_
            rintro e w4 ⟨rfl, rfl⟩
            go_wp2_with fail
            refine (HR.out _ (Hv.out.below (bthen HB3.out (b3 _)))).mono ?_
            rintro e w4 ⟨rfl, hb4⟩
            have D3 := bcell hb4 (C3 _)
            go_wp2_with fail
            go_ret
            first | rw [Hres.out] | rw [show takesS ((24 : Nat) : Int) operand x = _ from Hres.out]
            exact ⟨rfl, bthen (bthen HB3.out (b3 _)) hb4⟩
          | false =>
            have hres : takesS 24 operand x = 0 := by simp [takesS, pureB, hrb]
            have Hres := Lib.hid hres
            rw [hrb] at hr
            have HR := Lib.hid hr
            clear hres hr hrb hk4
            go_enter Tryz.func19, Tryz.ntmps19
            go_wp2_with fail
            refine (HI.out _ (Lib.hid (hl.out.below (hb1 _)))).mono ?_
            rintro e w3 ⟨rfl, hb3⟩
            have HB3 := Lib.hid (bthen (hb1 _) hb3)
            have HX3 := Lib.hid (HBX.out.below hb3)
            have b3 : ∀ O : Obj, Below w3.heap.size w3 (w3.alloc O) := fun O => (Below.refl _ _).alloc (Nat.le_refl _) O
            obtain ⟨x0, x1, x2, x3, x4, hx, c0, c1, c2, c3, c4⟩ := HX3.out
            injection hx with hx
            simp only [Array.mk.injEq, List.cons.injEq, and_true] at hx
            obtain ⟨rfl, rfl, rfl, rfl, rfl⟩ := hx
            simp only [Nat.zero_add] at c0 c1 c2 c3 c4
            have C0 := fun O => bcell (b3 O) c0
            have C1 := fun O => bcell (b3 O) c1
            have C2 := fun O => bcell (b3 O) c2
            have C3 := fun O => bcell (b3 O) c3
            have C4 := fun O => bcell (b3 O) c4
            clear c0 c1 c2 c3 c4 hb3
            go_wp2_with fail
            refine (HP.out _).mono ?_
            rintro e w4 ⟨rfl, rfl⟩
            go_wp2_with fail
            refine (HR.out _ (Hv.out.below (bthen HB3.out (b3 _)))).mono ?_
            rintro e w4 ⟨rfl, hb4⟩
            have D3 := bcell hb4 (show (w3.alloc (.cells #[.string (opNameS 24), .int .i64 (opNum 24 0), .int .i64 (opNum 24 1), .int .i64 (opNum 24 2), .int .i64 (opNum 24 3), .int .i64 (opNum 24 4)] 66)).cell? ⟨w3.heap.size, 2, none⟩ = some (.int .i64 (opNum 24 1)) from World.cell?_alloc_at _ _ _ _ rfl)
            go_wp2_with fail
            go_ret
            first | rw [Hres.out] | rw [show takesS ((24 : Nat) : Int) operand x = _ from Hres.out]
            exact ⟨ret_i64 Hnum.out, bthen (bthen HB3.out (b3 _)) hb4⟩
        · have hl40' : ¬ (x.parts.length : Int) ≤ 40 := by omega
          have hres : takesS 24 operand x = 0 := by simp [takesS, pureB, hl40]
          have Hres := Lib.hid hres
          clear hres hk4
          go_enter Tryz.func19, Tryz.ntmps19
          go_wp2_with fail
          refine (HI.out _ (Lib.hid (hl.out.below (hb1 _)))).mono ?_
          rintro e w3 ⟨rfl, hb3⟩
          have HB3 := Lib.hid (bthen (hb1 _) hb3)
          have HX3 := Lib.hid (HBX.out.below hb3)
          have b3 : ∀ O : Obj, Below w3.heap.size w3 (w3.alloc O) := fun O => (Below.refl _ _).alloc (Nat.le_refl _) O
          obtain ⟨x0, x1, x2, x3, x4, hx, c0, c1, c2, c3, c4⟩ := HX3.out
          injection hx with hx
          simp only [Array.mk.injEq, List.cons.injEq, and_true] at hx
          obtain ⟨rfl, rfl, rfl, rfl, rfl⟩ := hx
          simp only [Nat.zero_add] at c0 c1 c2 c3 c4
          have C0 := fun O => bcell (b3 O) c0
          have C1 := fun O => bcell (b3 O) c1
          have C2 := fun O => bcell (b3 O) c2
          have C3 := fun O => bcell (b3 O) c3
          have C4 := fun O => bcell (b3 O) c4
          clear c0 c1 c2 c3 c4 hb3
          go_wp2_with fail
          refine (HP.out _).mono ?_
          rintro e w4 ⟨rfl, rfl⟩
          go_wp2_with fail
          go_ret
          first | rw [Hres.out] | rw [show takesS ((24 : Nat) : Int) operand x = _ from Hres.out]
          exact ⟨ret_i64 Hnum.out, bthen HB3.out (b3 _)⟩
      · have q4 : (x.kind == 4) = false := by simpa using hk4
        have hres : takesS 24 operand x = 0 := by simp [takesS, pureB, hk4]
        have Hres := Lib.hid hres
        clear hres hk4
        go_enter Tryz.func19, Tryz.ntmps19
        go_wp2_with fail
        refine (HI.out _ (Lib.hid (hl.out.below (hb1 _)))).mono ?_
        rintro e w3 ⟨rfl, hb3⟩
        have HB3 := Lib.hid (bthen (hb1 _) hb3)
        have HX3 := Lib.hid (HBX.out.below hb3)
        have b3 : ∀ O : Obj, Below w3.heap.size w3 (w3.alloc O) := fun O => (Below.refl _ _).alloc (Nat.le_refl _) O
        obtain ⟨x0, x1, x2, x3, x4, hx, c0, c1, c2, c3, c4⟩ := HX3.out
        injection hx with hx
        simp only [Array.mk.injEq, List.cons.injEq, and_true] at hx
        obtain ⟨rfl, rfl, rfl, rfl, rfl⟩ := hx
        simp only [Nat.zero_add] at c0 c1 c2 c3 c4
        have C0 := fun O => bcell (b3 O) c0
        have C1 := fun O => bcell (b3 O) c1
        have C2 := fun O => bcell (b3 O) c2
        have C3 := fun O => bcell (b3 O) c3
        have C4 := fun O => bcell (b3 O) c4
        clear c0 c1 c2 c3 c4 hb3
        go_wp2_with fail
        refine (HP.out _).mono ?_
        rintro e w4 ⟨rfl, rfl⟩
        go_wp2_with fail
        go_ret
        first | rw [Hres.out] | rw [show takesS ((24 : Nat) : Int) operand x = _ from Hres.out]
        exact ⟨ret_i64 Hnum.out, bthen HB3.out (b3 _)⟩
    · have g23 : ((k : Int) == 23) = false := by simp; omega
      have g24 : ((k : Int) == 24) = false := by simp; omega
      have hres : takesS (k : Int) operand x = opNum k 1 := by
        have h1 : ¬ (k : Int) = 23 := by omega
        have h2 : ¬ (k : Int) = 24 := by omega
        rw [Htk.out k23 k24]
        unfold takesS
        rw [Hp.out, if_neg (by simp), if_neg h1, if_neg h2, Int.toNat_natCast]
      have Hres := Lib.hid hres
      clear hres k23 k24
      go_enter Tryz.func19, Tryz.ntmps19
      go_wp2_with fail
      refine (HI.out _ (Lib.hid (hl.out.below (hb1 _)))).mono ?_
      rintro e w3 ⟨rfl, hb3⟩
      have HB3 := Lib.hid (bthen (hb1 _) hb3)
      go_wp2_with fail
      refine (HP.out _).mono ?_
      rintro e w4 ⟨rfl, rfl⟩
      go_wp2_with fail
      go_ret
      rw [Hres.out]
      exact ⟨rfl, HB3.out.alloc HB3.out.size _⟩
  · have hp' : pureB op = false := by simpa using hp
    have hP := fun W => prim_Pure op W
    rw [hp'] at hP
    have HP := Lib.hid hP
    have hres : takesS op operand x = 0 := by simp [takesS, hp']
    have Hres := Lib.hid hres
    clear hP hp hp' hres
    by_cases hop : op < 1 ∨ 41 < op
    · have HI := Lib.hid (fun W => Info_none op W hop)
      clear hop
      go_enter Tryz.func19, Tryz.ntmps19
      go_wp2_with fail
      refine (HI.out _).mono ?_
      rintro e w3 ⟨rfl, hb3⟩
      have HB3 := Lib.hid (bthen (hb1 _) hb3)
      go_wp2_with fail
      refine (HP.out _).mono ?_
      rintro e w4 ⟨rfl, rfl⟩
      go_wp2_with fail
      go_ret
      rw [Hres.out]
      exact ⟨rfl, HB3.out.alloc HB3.out.size _⟩
    · obtain ⟨k, rfl⟩ : ∃ k : Nat, op = (k : Int) := ⟨op.toNat, by omega⟩
      have HI := Lib.hid (fun W hW => Info_some k W hW (by omega) (by omega))
      clear hop
      go_enter Tryz.func19, Tryz.ntmps19
      go_wp2_with fail
      refine (HI.out _ (Lib.hid (hl.out.below (hb1 _)))).mono ?_
      rintro e w3 ⟨rfl, hb3⟩
      have HB3 := Lib.hid (bthen (hb1 _) hb3)
      go_wp2_with fail
      refine (HP.out _).mono ?_
      rintro e w4 ⟨rfl, rfl⟩
      go_wp2_with fail
      go_ret
      rw [Hres.out]
      exact ⟨rfl, HB3.out.alloc HB3.out.size _⟩
end Go.Proofs.YtacaknkfddlklaaGreatDoor
namespace Go.Proofs.YtacaknkfddlklaaGreatDoor
open Go.RowKit Go.IntWalk

/-- takesS, by whole numbers alone -/
theorem takes_i (op operand : Int) (x : V) (h23 : op ≠ 23) (h24 : op ≠ 24) : takesS op operand x = if 10 ≤ op ∧ op ≤ 37 then (if op = 15 ∨ op = 16 ∨ op = 26 ∨ op = 27 ∨ op = 33 ∨ op = 35 ∨ op = 36 ∨ op = 37 then 1 else if op = 29 ∨ op = 30 ∨ op = 31 then 3 else 2) else 0 := by
  by_cases hp : 10 ≤ op ∧ op ≤ 37
  · obtain ⟨k, rfl⟩ : ∃ k : Nat, op = (k : Int) := ⟨op.toNat, by omega⟩
    have hpb : pureB (k : Int) = true := by simp [pureB]; omega
    rw [takesS, hpb, if_neg (by simp), if_neg h23, if_neg h24, if_pos hp, Int.toNat_natCast, tkS]
    have e : ∀ n : Nat, ((k : Int) = (n : Int)) ↔ k = n := fun n => by omega
    have e15 := e 15; have e16 := e 16; have e26 := e 26; have e27 := e 27; have e33 := e 33; have e35 := e 35; have e36 := e 36; have e37 := e 37; have e29 := e 29; have e30 := e 30; have e31 := e 31
    have c1 : ((k : Int) = 15 ∨ (k : Int) = 16 ∨ (k : Int) = 26 ∨ (k : Int) = 27 ∨ (k : Int) = 33 ∨ (k : Int) = 35 ∨ (k : Int) = 36 ∨ (k : Int) = 37) ↔ (k = 15 ∨ k = 16 ∨ k = 26 ∨ k = 27 ∨ k = 33 ∨ k = 35 ∨ k = 36 ∨ k = 37) := by omega
    have c2 : ((k : Int) = 29 ∨ (k : Int) = 30 ∨ (k : Int) = 31) ↔ (k = 29 ∨ k = 30 ∨ k = 31) := by omega
    simp only [c1, c2]
  · have hpb : pureB op = false := by simp [pureB]; omega
    rw [takesS, hpb, if_pos rfl, if_neg hp]
set_option maxRecDepth 20000 in
set_option maxHeartbeats 1000000 in
theorem ref_Takes (op operand : Int) (x : V) (v : Value) (ok : Nat → Prop) (w : World) (hv : RdV ok w v x) :
    Calls Tryz.prog 21 #[.int .i64 op, .int .i64 operand, v] w fun e w' => e = .returned (.int .i64 (takesS op operand x)) ∧ Below w.heap.size w w' := by
  obtain ⟨A, c, B, d, rfl, h1, h2, h3, h4, h5, h6, h7⟩ := hv.form
  have Hv := Lib.hid hv
  clear hv
  have hb1 : ∀ O : Obj, Below w.heap.size w (w.alloc O) := fun O => (Below.refl _ _).alloc (Nat.le_refl _) O
  have hbx := rbox5 w (.int .i64 x.kind) (.int .i64 x.num) (.string ⟨x.str.toArray⟩) (.slice A x.parts.length c) (.slice B x.keys.length d) 25
  by_cases k23 : op = 23
  · subst k23
    have ht : takesS 23 operand x = if 0 ≤ operand ∧ operand ≤ 40 then operand else 0 := by simp [takesS, pureB]
    have Ht := Lib.hid ht
    clear ht hbx
    go_enter Tryz.func21, Tryz.ntmps21
    go_wp2_with fail
    all_goals go_ret
    all_goals rw [Ht.out]
    all_goals refine ⟨ret_i64 ?_, hb1 _⟩
    all_goals first | (rw [if_pos (by omega)]; done) | (rw [if_neg (by omega)]; done)
  by_cases k24 : op = 24
  · subst k24
    have hr := fun W => ref_Right x (valV x A c B d) ok W
    have HBX := Lib.hid hbx
    have ht : takesS 24 operand x = if x.kind = 4 ∧ x.parts.length ≤ 40 ∧ rightB x = true then (x.parts.length : Int) else 0 := by simp [takesS, pureB]
    have Ht := Lib.hid ht
    clear ht hbx k23
    cases hrb : rightB x with
    | true =>
      rw [hrb] at hr
      have HR := Lib.hid hr
      have Hrb := Lib.hid hrb
      clear hr hrb
      go_enter Tryz.func21, Tryz.ntmps21
      go_wp2_with fail
      refine (HR.out _ (Hv.out.below (hb1 _))).mono ?_
      rintro e w3 ⟨rfl, hb3⟩
      obtain ⟨x0, x1, x2, x3, x4, hx, c0, c1, c2, c3, c4⟩ := HBX.out.below hb3
      injection hx with hx
      simp only [Array.mk.injEq, List.cons.injEq, and_true] at hx
      obtain ⟨rfl, rfl, rfl, rfl, rfl⟩ := hx
      simp only [Nat.zero_add] at c0 c1 c2 c3 c4
      go_wp2_with fail
      all_goals go_ret
      all_goals rw [Ht.out]
      all_goals refine ⟨ret_i64 ?_, bthen (hb1 _) hb3⟩
      all_goals have hrb := Hrb.out
      all_goals simp only [hrb, and_true]
      all_goals try simp only [bne_iff_ne, ne_eq, bne_eq_false_iff_eq] at *
      all_goals first | (rw [if_pos (by omega)]; done) | (rw [if_neg (by omega)]; done)
    | false =>
      rw [hrb] at hr
      have HR := Lib.hid hr
      have Hrb := Lib.hid hrb
      clear hr hrb
      go_enter Tryz.func21, Tryz.ntmps21
      go_wp2_with fail
      refine (HR.out _ (Hv.out.below (hb1 _))).mono ?_
      rintro e w3 ⟨rfl, hb3⟩
      go_wp2_with fail
      all_goals go_ret
      all_goals rw [Ht.out, Hrb.out]
      all_goals exact ⟨ret_i64 (by simp), bthen (hb1 _) hb3⟩
  · have ht := takes_i op operand x k23 k24
    have Ht := Lib.hid ht
    have g23 : (op == 23) = false := by simpa using k23
    have g24 : (op == 24) = false := by simpa using k24
    clear ht hbx k23 k24
    go_enter Tryz.func21, Tryz.ntmps21
    go_wp2_with (go_at_call 20; refine (ref_Pure _ _).mono ?_; rintro e w4 ⟨rfl, rfl⟩)
    all_goals go_ret
    all_goals rw [Ht.out]
    all_goals refine ⟨ret_i64 ?_, hb1 _⟩
    all_goals simp only [beq_iff_eq, beq_eq_false_iff_ne, ne_eq, pureB, Bool.and_eq_true, decide_eq_true_eq, Bool.and_eq_false_iff, decide_eq_false_iff_not] at *
    all_goals repeat' split
    all_goals omega
end Go.Proofs.YtacaknkfddlklaaGreatDoor
namespace Go.Proofs.YtacaknkfddlklaaGreatDoor
open Go.RowKit Go.IntWalk

def fitsS (op : Int) (x : V) (l : List V) : Bool :=
  rightB x && (decide (l.length ≤ 40) && (l.all rightB && ((decide (op ≠ 26) || decide (x.kind = 3)) && decide ((l.length : Int) = takesS op l.length x))))
set_option maxRecDepth 20000 in
set_option maxHeartbeats 1000000 in
theorem prim_fits (op : Int) (x : V) (l : List V) (v : Value) (A : Option Addr) (c : Nat) (ok : Nat → Prop) (w : World) (hv : RdV ok w v x) (hls : RdVs ok w (.slice A l.length c) 0 l) (hlc : l.length ≤ c) (hcm : c ≤ 9223372036854775807) (hl : Hid (CodeLaid w)) (h24 : op ≠ 24) :
    Calls Tryz.prog 28 #[.int .i64 op, v, .slice A l.length c] w fun e w' => e = .returned (.bool (fitsS op x l)) ∧ Below w.heap.size w w' := by
  obtain ⟨A1, c1, B1, d1, rfl, h1, h2, h3, h4, h5, h6, h7⟩ := hv.form
  have Hv := Lib.hid hv
  have Hls := Lib.hid hls
  have hb1 : ∀ O : Obj, Below w.heap.size w (w.alloc O) := fun O => (Below.refl _ _).alloc (Nat.le_refl _) O
  have hbx := rbox5 w (.int .i64 x.kind) (.int .i64 x.num) (.string ⟨x.str.toArray⟩) (.slice A1 x.parts.length c1) (.slice B1 x.keys.length d1) 25
  have HBX := Lib.hid hbx
  have g24 : (op == 24) = false := by simpa using h24
  have hr := fun W hv => value_Right x (valV x A1 c1 B1 d1) ok W hv
  clear hv hls hbx h24
  cases hrx : rightB x with
  | false =>
    have Hres : Hid (fitsS op x l = false) := by show _ = _; simp [fitsS, hrx]
    rw [hrx] at hr
    have HR := Lib.hid hr
    clear hr hrx
    go_enter Tryz.func28, Tryz.ntmps28
    go_wp2_with fail
    refine (HR.out _ (Hv.out.below (hb1 _))).mono ?_
    rintro e w3 ⟨rfl, hb3⟩
    go_wp2_with fail
    go_ret
    rw [Hres.out]
    exact ⟨rfl, bthen (hb1 _) hb3⟩
  | true =>
    rw [hrx] at hr
    have HR := Lib.hid hr
    have Hrx := Lib.hid hrx
    clear hr hrx
    by_cases h40 : l.length ≤ 40
    · have h40' : ¬ (40 : Int) < (l.length : Int) := by omega
      go_enter Tryz.func28, Tryz.ntmps28
      go_wp2_with fail
      refine (HR.out _ (Hv.out.below (hb1 _))).mono ?_
      rintro e w3 ⟨rfl, hb3⟩
      have HX3 := Lib.hid (HBX.out.below hb3)
      have HV3 := Lib.hid (Hv.out.below (bthen (hb1 _) hb3))
      have HL3 := Lib.hid (Hls.out.below (bthen (hb1 _) hb3))
      have HB3 := Lib.hid (bthen (hb1 _) hb3)
      have Hl3 := Lib.hid (hl.out.below (bthen (hb1 _) hb3))
      clear hb3
      go_wp2_with fail
      go_loopw [19] (fun i wr => ∃ k : Nat, k ≤ l.length ∧ i = .int .i64 k ∧ Below w3.heap.size w3 wr ∧ (l.take k).all rightB = true) (fun i _ => l.length - (intOf i).toNat)
      case atStart => exact ⟨0, Nat.zero_le _, rfl, Below.refl _ _, rfl⟩
      case round =>
        obtain ⟨k, hk, rfl, hb, hall⟩ := hrel
        have Hb := Lib.hid hb
        have Hall := Lib.hid hall
        clear hb hall
        by_cases hlt : k < l.length
        · have hlA : (k : Int) < (l.length : Int) := by omega
          have h00 : (0 : Int) ≤ (k : Int) := by omega
          obtain ⟨g, off, A', c', B', d', rfl, hog, hrd, e0, e1, e2, e3, e4⟩ := (HL3.out.below Hb.out).elem k hlt
          have htk : l.take (k + 1) = l.take k ++ [l[k]] := by rw [List.take_succ_eq_append_getElem hlt]
          have Htk := Lib.hid htk
          have hmem : l[k] ∈ l := List.getElem_mem _
          have Hmem := Lib.hid hmem
          generalize l[k] = X at *
          have hX := fun W hv => value_Right X (valV X A' c' B' d') ok W hv
          have HX := Lib.hid hX
          have HRd := Lib.hid hrd
          clear htk hmem hX hrd
          go_wp2_with fail
          refine (HX.out _ (HRd.out.below ((Below.refl _ _).alloc (Nat.le_refl _) _))).mono ?_
          rintro e w4 ⟨rfl, hb4⟩
          cases hxb : rightB X with
          | false =>
            have Hres : Hid (fitsS op x l = false) := by
              show _ = _
              have : l.all rightB = false := by
                rw [List.all_eq_false]
                exact ⟨X, Hmem.out, by rw [hxb]; simp⟩
              simp [fitsS, this]
            clear hxb
            go_wp2_with fail
            go_ret
            rw [Hres.out]
            exact ⟨rfl, bthen HB3.out (bthen Hb.out (bthen ((Below.refl _ _).alloc (Nat.le_refl _) _) hb4))⟩
          | true =>
            have Hn : Hid ((l.take (k + 1)).all rightB = true) := by
              show _ = _
              rw [Htk.out, List.all_append, Hall.out]
              simp [hxb]
            clear hxb
            go_wp2_with fail
            exact ⟨⟨k + 1, by omega, by go_num, bthen Hb.out (bthen ((Below.refl _ _).alloc (Nat.le_refl _) _) hb4), Hn.out⟩, by simp [intOf]; omega⟩
        · have Hal : Hid (l.all rightB = true) := by
            show _ = _
            have := Hall.out
            rwa [List.take_of_length_le (by omega)] at this
          obtain ⟨x0, x1, x2, x3, x4, hx, e0, e1, e2, e3, e4⟩ := HX3.out.below Hb.out
          injection hx with hx
          simp only [Array.mk.injEq, List.cons.injEq, and_true] at hx
          obtain ⟨rfl, rfl, rfl, rfl, rfl⟩ := hx
          simp only [Nat.zero_add] at e0 e1 e2 e3 e4
          have ht := fun W hv hl => prim_Takes op (l.length : Int) x (valV x A1 c1 B1 d1) ok W hv hl
          have HT := Lib.hid ht
          clear ht
          by_cases k26 : op = 26
          · subst k26
            by_cases hk3 : x.kind = 3
            · have q3 : (x.kind != 3) = false := by simpa using hk3
              have Hk3 := Lib.hid hk3
              clear hk3
              go_wp2_with fail
              refine (HT.out _ (HV3.out.below Hb.out) (Lib.hid (Hl3.out.below Hb.out))).mono ?_
              rintro e w4 ⟨rfl, hb4⟩
              go_wp2_with fail
              go_ret
              refine ⟨ret_bool ?_, bthen HB3.out (bthen Hb.out hb4)⟩
              rw [Bool.eq_iff_iff]
              simp [fitsS, Hrx.out, h40, Hal.out, Hk3.out]
            · have q3 : (x.kind != 3) = true := by simpa using hk3
              have Hk3 := Lib.hid hk3
              clear hk3
              go_wp2_with fail
              go_ret
              refine ⟨ret_bool ?_, bthen HB3.out Hb.out⟩
              simp [fitsS, Hk3.out]
          · have q26 : (op == 26) = false := by simpa using k26
            have Hk26 := Lib.hid k26
            clear k26
            go_wp2_with fail
            refine (HT.out _ (HV3.out.below Hb.out) (Lib.hid (Hl3.out.below Hb.out))).mono ?_
            rintro e w4 ⟨rfl, hb4⟩
            go_wp2_with fail
            go_ret
            refine ⟨ret_bool ?_, bthen HB3.out (bthen Hb.out hb4)⟩
            rw [Bool.eq_iff_iff]
            simp [fitsS, Hrx.out, h40, Hal.out, Hk26.out]
    · have h40' : (40 : Int) < (l.length : Int) := by omega
      have Hres : Hid (fitsS op x l = false) := by show _ = _; simp [fitsS, h40]
      go_enter Tryz.func28, Tryz.ntmps28
      go_wp2_with fail
      refine (HR.out _ (Hv.out.below (hb1 _))).mono ?_
      rintro e w3 ⟨rfl, hb3⟩
      go_wp2_with fail
      go_ret
      rw [Hres.out]
      exact ⟨rfl, bthen (hb1 _) hb3⟩
end Go.Proofs.YtacaknkfddlklaaGreatDoor
