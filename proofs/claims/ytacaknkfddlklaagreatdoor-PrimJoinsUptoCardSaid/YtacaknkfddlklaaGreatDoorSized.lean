/- Contracts of value.Copy, prim.sized, prim.text, prim.size, prim.row. -/
import Derived.Test.YtacaknkfddlklaaGreatDoorTwin
import Derived.Test.YtacaknkfddlklaaGreatDoorDoOps
set_option linter.unusedVariables false
set_option linter.unusedSimpArgs false
namespace Go.Proofs.YtacaknkfddlklaaGreatDoor
open Go.RowKit Go.IntWalk

theorem zero_rd' (ok : Nat → Prop) (w : World) : RdV ok w (aggV 0 0) V.zero := RdV.plain 0 0 [] (i64ok_small (by decide) (by decide)) (i64ok_small (by decide) (by decide)) (by simp)
set_option maxRecDepth 20000 in
set_option maxHeartbeats 2000000 in
theorem value_Copy (X : V) (v : Value) (ok : Nat → Prop) (w : World) (hv : RdV ok w v X) :
    Calls Tryz.prog 107 #[v] w fun e w' => ∃ v', e = .returned v' ∧ RdV (newB w.heap.size) w' v' (if rightB X then X else V.zero) ∧ Below w.heap.size w w' := by
  obtain ⟨A1, c1, B1, d1, rfl, h1, h2, h3, h4, h5, h6, h7⟩ := hv.form
  have Hv := Lib.hid hv
  have HS := Lib.hid (DoSt.made w (.int .i64 X.kind) (.int .i64 X.num) (.string ⟨X.str.toArray⟩) (.slice A1 X.parts.length c1) (.slice B1 X.keys.length d1))
  have HR := Lib.hid (fun W hv => value_Right X (valV X A1 c1 B1 d1) ok W hv)
  have HT := Lib.hid (fun W hv => value_twin (SizeOf.sizeOf X) X (valV X A1 c1 B1 d1) ok W hv (Nat.le_refl _))
  clear hv
  cases hr : rightB X with
  | false =>
    rw [hr] at HR
    simp only [Bool.false_eq_true, if_false]
    clear hr
    go_enter Tryz.func107, Tryz.ntmps107
    go_wp2_with fail
    refine (HR.out _ (Hv.out.below (two_alloc _ _ _))).mono ?_
    rintro e w1 ⟨rfl, hb⟩
    obtain ⟨h0, h1, h2, h3, h4, r0, r1, r2, r3, r4, hf, hw⟩ := HS.out.below hb
    have hf0 := hf 0
    have hf1 := hf 1
    have hf2 := hf 2
    have hf3 := hf 3
    have hf4 := hf 4
    have Hw := Lib.hid hw
    clear hb hw hf
    go_wp2_with fail
    refine bodyPost_ret (v := aggV 0 0) (by simp [results, Tryz.results107, go_sem, r0, r1, r2, r3, r4]) rfl ⟨_, rfl, zero_rd' _ _, five_sets Hw.out (Nat.le_succ _) _ _ _ _ _ _ _ _ _ _⟩
  | true =>
    rw [hr] at HR
    simp only [if_true]
    clear hr
    go_enter Tryz.func107, Tryz.ntmps107
    go_wp2_with fail
    refine (HR.out _ (Hv.out.below (two_alloc _ _ _))).mono ?_
    rintro e w1 ⟨rfl, hb⟩
    have HS1 := Lib.hid (HS.out.below hb)
    have Hv1 := Lib.hid (Hv.out.below (bthen (two_alloc _ _ _) hb))
    clear hb
    obtain ⟨h0, h1, h2, h3, h4, r0, r1, r2, r3, r4, hf, hw⟩ := HS1.out
    go_wp2_with fail
    refine (HT.out _ Hv1.out).mono ?_
    rintro e w2 ⟨v', rfl, hv', hb⟩
    obtain ⟨A2, c2, B2, d2, rfl, _⟩ := hv'.form
    have HV := Lib.hid hv'
    have Hwt := Lib.hid hw
    have HS2 := Lib.hid (HS1.out.below hb)
    have Hlt := Lib.hid (lt_of_cell r0)
    clear hv' hb hf hw h0 h1 h2 h3 h4 r0 r1 r2 r3 r4
    obtain ⟨h0, h1, h2, h3, h4, r0, r1, r2, r3, r4, hf, hw⟩ := HS2.out
    have hf0 := hf 0
    have hf1 := hf 1
    have hf2 := hf 2
    have hf3 := hf 3
    have hf4 := hf 4
    have Hw := Lib.hid hw
    clear hw hf
    go_wp2_with fail
    refine bodyPost_ret (v := valV X A2 c2 B2 d2) (by simp [results, Tryz.results107, go_sem, r0, r1, r2, r3, r4]) rfl ⟨_, rfl, ans_sets HV.out Hlt.out (Nat.lt_succ_self _) Hwt.out.size _ _ _ _ _ _ _ _ _ _, five_sets Hw.out (Nat.le_succ _) _ _ _ _ _ _ _ _ _ _⟩
set_option maxRecDepth 20000 in
set_option maxHeartbeats 2000000 in
theorem prim_sized (X : V) (v : Value) (ok : Nat → Prop) (w : World) (hv : RdV ok w v X) :
    Calls Tryz.prog 66 #[v] w (AnsPost w (if rightB X then X else V.zero) (if rightB X then 0 else 5)) := by
  obtain ⟨A1, c1, B1, d1, rfl, h1, h2, h3, h4, h5, h6, h7⟩ := hv.form
  have Hv := Lib.hid hv
  have HS := Lib.hid (DoSt.made w (.int .i64 X.kind) (.int .i64 X.num) (.string ⟨X.str.toArray⟩) (.slice A1 X.parts.length c1) (.slice B1 X.keys.length d1))
  have HR := Lib.hid (fun W hv => value_Right X (valV X A1 c1 B1 d1) ok W hv)
  have HT := Lib.hid (fun W hv => value_Copy X (valV X A1 c1 B1 d1) ok W hv)
  clear hv
  cases hr : rightB X with
  | false =>
    rw [hr] at HR
    simp only [Bool.false_eq_true, if_false]
    clear hr HT
    go_enter Tryz.func66, Tryz.ntmps66
    go_wp2_with fail
    refine (HR.out _ (Hv.out.below (two_alloc _ _ _))).mono ?_
    rintro e w1 ⟨rfl, hb⟩
    have HS1 := Lib.hid (HS.out.below hb)
    clear hb
    go_wp2_with fail
    refine (prim_trapped _ _).mono ?_
    rintro e wn ⟨rfl, rfl⟩
    obtain ⟨h0, h1, h2, h3, h4, r0, r1, r2, r3, r4, hf, hw⟩ := HS1.out.below ((Below.refl _ _).alloc (Nat.le_refl _) (cellsV 0 0))
    have hf0 := hf 0
    have hf1 := hf 1
    have hf2 := hf 2
    have hf3 := hf 3
    have hf4 := hf 4
    have Hw := Lib.hid hw
    clear hw hf
    go_wp2_with fail
    refine bodyPost_ret (v := .tuple #[aggV 0 0, .int .i64 5]) ?_ rfl ⟨_, rfl, zero_rd' _ _, five_sets Hw.out (Nat.le_succ _) _ _ _ _ _ _ _ _ _ _⟩
    rw [results_cell_tmp rfl]
    go_simp
  | true =>
    rw [hr] at HR HT
    simp only [if_true] at HT ⊢
    clear hr
    go_enter Tryz.func66, Tryz.ntmps66
    go_wp2_with fail
    refine (HR.out _ (Hv.out.below (two_alloc _ _ _))).mono ?_
    rintro e w1 ⟨rfl, hb⟩
    have HS1 := Lib.hid (HS.out.below hb)
    have Hv1 := Lib.hid (Hv.out.below (bthen (two_alloc _ _ _) hb))
    clear hb
    obtain ⟨h0, h1, h2, h3, h4, r0, r1, r2, r3, r4, hf, hw⟩ := HS1.out
    go_wp2_with fail
    refine (HT.out _ Hv1.out).mono ?_
    rintro e w2 ⟨v', rfl, hv', hb⟩
    obtain ⟨A2, c2, B2, d2, rfl, _⟩ := hv'.form
    have HV := Lib.hid hv'
    have Hwt := Lib.hid hw
    have HS2 := Lib.hid (HS1.out.below hb)
    have Hlt := Lib.hid (lt_of_cell r0)
    clear hv' hb hf hw h0 h1 h2 h3 h4 r0 r1 r2 r3 r4
    obtain ⟨h0, h1, h2, h3, h4, r0, r1, r2, r3, r4, hf, hw⟩ := HS2.out
    have hf0 := hf 0
    have hf1 := hf 1
    have hf2 := hf 2
    have hf3 := hf 3
    have hf4 := hf 4
    have Hw := Lib.hid hw
    clear hw hf
    go_wp2_with fail
    refine bodyPost_ret (v := .tuple #[valV X A2 c2 B2 d2, .int .i64 0]) ?_ rfl ⟨_, rfl, ans_sets HV.out Hlt.out (Nat.lt_succ_self _) Hwt.out.size _ _ _ _ _ _ _ _ _ _, five_sets Hw.out (Nat.le_succ _) _ _ _ _ _ _ _ _ _ _⟩
    rw [results_cell_tmp rfl]
    go_simp
set_option maxRecDepth 20000 in
set_option maxHeartbeats 1000000 in
theorem prim_text (w : World) (s : ByteArray) :
    Calls Tryz.prog 111 #[.string s] w fun e w' => e = .returned (.tuple #[.agg #[.int .i64 3, .int .i64 0, .string s, .slice none 0 0, .slice none 0 0], .int .i64 0]) ∧ w' = w.alloc (.cells #[.int .i64 3, .int .i64 0, .string s, .slice none 0 0, .slice none 0 0] 25) := by
  go_enter Tryz.func111, Tryz.ntmps111
  go_wp2
  refine bodyPost_ret (v := .tuple #[.agg #[.int .i64 3, .int .i64 0, .string s, .slice none 0 0, .slice none 0 0], .int .i64 0]) ?_ rfl ⟨rfl, rfl⟩
  rw [results_cell_tmp rfl]
  go_simp
/-- how many parts; none: below 0 -/
def longS (X : V) : Int := if X.kind = 3 then X.str.length else if X.kind = 4 ∨ X.kind = 5 then X.parts.length else 0
def hasLong (X : V) : Bool := decide (X.kind = 3) || (decide (X.kind = 4) || decide (X.kind = 5))
set_option maxRecDepth 20000 in
set_option maxHeartbeats 1000000 in
theorem prim_size (X : V) (v : Value) (ok : Nat → Prop) (w : World) (hv : RdV ok w v X) :
    Calls Tryz.prog 71 #[v] w fun e w' => e = .returned (.tuple #[.int .i64 (longS X), .bool (hasLong X)]) ∧ Below w.heap.size w w' := by
  obtain ⟨A1, c1, B1, d1, rfl, h1, h2, h3, h4, h5, h6, h7⟩ := hv.form
  clear hv
  have hb1 := fun O => (Below.refl w.heap.size w).alloc (Nat.le_refl _) O
  have HB := Lib.hid hb1
  have hsl : (List.length X.str : Int) ≤ 16777216 := by omega
  clear hb1
  by_cases k3 : X.kind = 3
  · have hl : longS X = X.str.length := by simp [longS, k3]
    have hh : hasLong X = true := by simp [hasLong, k3]
    rw [hl, hh]
    have g3 : (X.kind == 3) = true := by simpa using k3
    clear hl hh k3
    go_enter Tryz.func71, Tryz.ntmps71
    go_wp2_with fail
    refine bodyPost_ret (v := .tuple #[.int .i64 (X.str.length : Int), .bool true]) (by simp [results, Tryz.results71, go_sem]) rfl ⟨rfl, HB.out _⟩
  · have g3 : (X.kind == 3) = false := by simpa using k3
    by_cases k4 : X.kind = 4
    · have hl : longS X = X.parts.length := by simp [longS, k4]
      have hh : hasLong X = true := by simp [hasLong, k4]
      rw [hl, hh]
      have g4 : (X.kind == 4) = true := by simpa using k4
      clear hl hh k3 k4
      go_enter Tryz.func71, Tryz.ntmps71
      go_wp2_with fail
      refine bodyPost_ret (v := .tuple #[.int .i64 (X.parts.length : Int), .bool true]) (by simp [results, Tryz.results71, go_sem]) rfl ⟨rfl, HB.out _⟩
    · have g4 : (X.kind == 4) = false := by simpa using k4
      by_cases k5 : X.kind = 5
      · have hl : longS X = X.parts.length := by simp [longS, k5]
        have hh : hasLong X = true := by simp [hasLong, k5]
        rw [hl, hh]
        have g5 : (X.kind == 5) = true := by simpa using k5
        clear hl hh k3 k4 k5
        go_enter Tryz.func71, Tryz.ntmps71
        go_wp2_with fail
        refine bodyPost_ret (v := .tuple #[.int .i64 (X.parts.length : Int), .bool true]) (by simp [results, Tryz.results71, go_sem]) rfl ⟨rfl, HB.out _⟩
      · have hl : longS X = 0 := by simp [longS, k3, k4, k5]
        have hh : hasLong X = false := by simp [hasLong, k3, k4, k5]
        rw [hl, hh]
        have g5 : (X.kind == 5) = false := by simpa using k5
        clear hl hh k3 k4 k5
        go_enter Tryz.func71, Tryz.ntmps71
        go_wp2_with fail
        refine bodyPost_ret (v := .tuple #[.int .i64 0, .bool false]) (by simp [results, Tryz.results71, go_sem]) rfl ⟨rfl, HB.out _⟩
set_option maxRecDepth 20000 in
set_option maxHeartbeats 1000000 in
theorem prim_row (X : V) (v : Value) (ok : Nat → Prop) (w : World) (hv : RdV ok w v X) :
    Calls Tryz.prog 109 #[v] w fun e w' => e = .returned (.bool (decide (X.kind = 4) || decide (X.kind = 3))) ∧ Below w.heap.size w w' := by
  obtain ⟨A1, c1, B1, d1, rfl, h1, h2, h3, h4, h5, h6, h7⟩ := hv.form
  clear hv
  have HB := Lib.hid (fun O => (Below.refl w.heap.size w).alloc (Nat.le_refl _) O)
  by_cases k4 : X.kind = 4
  · rw [show (decide (X.kind = 4) || decide (X.kind = 3)) = true by simp [k4]]
    have g4 : (X.kind == 4) = true := by simpa using k4
    clear k4
    go_enter Tryz.func109, Tryz.ntmps109
    go_wp2_with fail
    go_ret
    exact ⟨rfl, HB.out _⟩
  · have g4 : (X.kind == 4) = false := by simpa using k4
    by_cases k3 : X.kind = 3
    · rw [show (decide (X.kind = 4) || decide (X.kind = 3)) = true by simp [k3]]
      have g3 : (X.kind == 3) = true := by simpa using k3
      clear k4 k3
      go_enter Tryz.func109, Tryz.ntmps109
      go_wp2_with fail
      go_ret
      exact ⟨rfl, HB.out _⟩
    · rw [show (decide (X.kind = 4) || decide (X.kind = 3)) = false by simp [k3, k4]]
      have g3 : (X.kind == 3) = false := by simpa using k3
      clear k4 k3
      go_enter Tryz.func109, Tryz.ntmps109
      go_wp2_with fail
      go_ret
      exact ⟨rfl, HB.out _⟩
end Go.Proofs.YtacaknkfddlklaaGreatDoor
