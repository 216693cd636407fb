/- Contracts of prim's len, kind, abort, array. -/
import Derived.Test.YtacaknkfddlklaaGreatDoorAdd
set_option linter.unusedVariables false
set_option linter.unusedSimpArgs false
namespace Go.Proofs.YtacaknkfddlklaaGreatDoor
open Go.RowKit Go.IntWalk

set_option maxRecDepth 20000 in
set_option maxHeartbeats 1000000 in
theorem prim_abort (x0 x1 x2 x3 x4 : Value) (l : Value) (w : World) :
    Calls Tryz.prog 81 #[.agg #[x0, x1, x2, x3, x4], l] w (PlainPost w 0 0 8) := by
  go_enter Tryz.func81, Tryz.ntmps81
  go_wp2_with fail
  refine (prim_trapped _ _).mono ?_
  rintro e w1 ⟨rfl, rfl⟩
  go_wp2
  refine bodyPost_ret (v := .tuple #[aggV 0 0, .int .i64 8]) ?_ rfl ⟨rfl, three_alloc _ _ _ _⟩
  rw [results_cell_tmp rfl]
  go_simp
set_option maxRecDepth 20000 in
set_option maxHeartbeats 1000000 in
theorem prim_kind (X : V) (x0 x1 x2 x3 x4 : Value) (A : Option Addr) (c : Nat) (ok : Nat → Prop) (w : World) (hls : RdVs ok w (.slice A 1 c) 0 [X]) :
    Calls Tryz.prog 79 #[.agg #[x0, x1, x2, x3, x4], .slice A 1 c] w (PlainPost w 2 X.kind 0) := by
  obtain ⟨g, off, A1, c1, B1, d1, rfl, hog, hr0, e0, e1, e2, e3, e4⟩ := hls.elem 0 (by simp)
  simp only [List.getElem_cons_zero, Nat.zero_mul, Nat.add_zero] at e0
  have c1 := fun U V => bcell (two_alloc w U V) e0
  clear hls hog hr0 e0 e1 e2 e3 e4
  go_enter Tryz.func79, Tryz.ntmps79
  go_wp2_with fail
  refine (prim_number _ _).mono ?_
  rintro e w1 ⟨rfl, rfl⟩
  go_wp2
  refine bodyPost_ret (v := .tuple #[aggV 2 X.kind, .int .i64 0]) ?_ rfl ⟨rfl, three_alloc _ _ _ _⟩
  rw [results_cell_tmp rfl]
  go_simp
/-- what len makes -/
def lenS (X : V) : V × Int := if hasLong X then (.mk 2 (longS X) [] [] [], 0) else (V.zero, 3)
set_option maxRecDepth 20000 in
set_option maxHeartbeats 1000000 in
theorem prim_len (X : V) (x0 x1 x2 x3 x4 : Value) (A : Option Addr) (c : Nat) (ok : Nat → Prop) (w : World) (hls : RdVs ok w (.slice A 1 c) 0 [X]) :
    Calls Tryz.prog 70 #[.agg #[x0, x1, x2, x3, x4], .slice A 1 c] w (PlainPost w (if hasLong X then 2 else 0) (if hasLong X then longS X else 0) (if hasLong X then 0 else 3)) := by
  obtain ⟨g, off, A1, c1, B1, d1, rfl, hog, hr0, e0, e1, e2, e3, e4⟩ := hls.elem 0 (by simp)
  simp only [List.getElem_cons_zero, Nat.zero_mul, Nat.add_zero] at e0 e1 e2 e3 e4 hr0
  have E0 := fun U V => bcell (two_alloc w U V) e0
  have E1 := fun U V => bcell (two_alloc w U V) e1
  have E2 := fun U V => bcell (two_alloc w U V) e2
  have E3 := fun U V => bcell (two_alloc w U V) e3
  have E4 := fun U V => bcell (two_alloc w U V) e4
  have HS := Lib.hid (fun W hv => prim_size X (valV X A1 c1 B1 d1) ok W hv)
  have Hr := Lib.hid hr0
  have HD := Lib.hid (DoSt.made w x0 x1 x2 x3 x4)
  clear hls hog hr0 e0 e1 e2 e3 e4
  cases hh : hasLong X with
  | false =>
    rw [hh] at HS
    simp only [Bool.false_eq_true, if_false]
    clear hh
    go_enter Tryz.func70, Tryz.ntmps70
    go_wp2_with fail
    refine (HS.out _ (Hr.out.below (two_alloc _ _ _))).mono ?_
    rintro e w1 ⟨rfl, hb⟩
    have HD1 := Lib.hid (HD.out.below hb)
    clear hb E0 E1 E2 E3 E4
    go_wp2_with fail
    refine (prim_trapped _ _).mono ?_
    rintro e wn ⟨rfl, rfl⟩
    obtain ⟨h0, h1, h2, h3, h4, r0, r1, r2, r3, r4, hf, hw⟩ := HD1.out.below (one_b _ (cellsV 0 0))
    have hf0 := hf 0
    have hf1 := hf 1
    have hf2 := hf 2
    have hf3 := hf 3
    have hf4 := hf 4
    have Hw := Lib.hid hw
    clear hw hf
    go_wp2_with fail
    refine bodyPost_ret (v := .tuple #[aggV 0 0, .int .i64 3]) ?_ rfl ⟨rfl, five_sets Hw.out (Nat.le_succ _) _ _ _ _ _ _ _ _ _ _⟩
    rw [results_cell_tmp rfl]
    go_simp
  | true =>
    rw [hh] at HS
    simp only [if_true]
    clear hh
    generalize longS X = n at *
    go_enter Tryz.func70, Tryz.ntmps70
    go_wp2_with fail
    refine (HS.out _ (Hr.out.below (two_alloc _ _ _))).mono ?_
    rintro e w1 ⟨rfl, hb⟩
    have HD1 := Lib.hid (HD.out.below hb)
    clear hb E0 E1 E2 E3 E4
    go_wp2_with fail
    refine (prim_number _ _).mono ?_
    rintro e wn ⟨rfl, rfl⟩
    obtain ⟨h0, h1, h2, h3, h4, r0, r1, r2, r3, r4, hf, hw⟩ := HD1.out.below (one_b _ (cellsV 2 n))
    have hf0 := hf 0
    have hf1 := hf 1
    have hf2 := hf 2
    have hf3 := hf 3
    have hf4 := hf 4
    have Hw := Lib.hid hw
    clear hw hf
    go_wp2_with fail
    refine bodyPost_ret (v := .tuple #[aggV 2 n, .int .i64 0]) ?_ rfl ⟨rfl, five_sets Hw.out (Nat.le_succ _) _ _ _ _ _ _ _ _ _ _⟩
    rw [results_cell_tmp rfl]
    go_simp
set_option maxRecDepth 20000 in
set_option maxHeartbeats 1000000 in
theorem prim_array (l : List V) (x0 x1 x2 x3 x4 : Value) (A : Option Addr) (c : Nat) (ok : Nat → Prop) (w : World) (hls : RdVs ok w (.slice A l.length c) 0 l) (hc : l.length ≤ c) (hcm : c ≤ 9223372036854775807) (hl : l.length ≤ 16777216) (R : V) (t : Int) (hR : sizedS (.mk 4 0 [] l []) = (R, t)) :
    Calls Tryz.prog 65 #[.agg #[x0, x1, x2, x3, x4], .slice A l.length c] w (AnsPost w R t) := by
  have hrd : RdV ok w (.agg #[.int .i64 4, .int .i64 0, .string ⟨#[]⟩, .slice A l.length c, .slice none 0 0]) (.mk 4 0 [] l []) :=
    RdV.close (s := []) (i64ok_small (by decide) (by decide)) (i64ok_small (by decide) (by decide)) (by simp) ⟨A, c, rfl, hc, hcm, hl⟩ hls (RdK.nil _ _ _ _ (by omega))
  have HRd := Lib.hid hrd
  have HR := Lib.hid hR
  have HD := Lib.hid (DoSt.made w x0 x1 x2 x3 x4)
  clear hls hrd hR
  go_enter Tryz.func65, Tryz.ntmps65
  go_wp2_with fail
  refine (prim_sized' _ R t HR.out _ ok _ (HRd.out.below (two_alloc _ _ _))).mono ?_
  rintro e w5 ⟨v', rfl, hv', hb⟩
  obtain ⟨A5, c5, B5, d5, rfl, _⟩ := hv'.form
  have HV := Lib.hid hv'
  have HS5 := Lib.hid (HD.out.below hb)
  clear hv' hb
  obtain ⟨h0, h1, h2, h3, h4, r0, r1, r2, r3, r4, hf, hw⟩ := HS5.out
  have hf0 := hf 0
  have hf1 := hf 1
  have hf2 := hf 2
  have hf3 := hf 3
  have hf4 := hf 4
  have Hw := Lib.hid hw
  clear hw hf
  go_wp2_with fail
  refine bodyPost_ret (v := .tuple #[valV R A5 c5 B5 d5, .int .i64 t]) ?_ rfl ⟨_, rfl, ans_sets HV.out (by simp) (Nat.lt_succ_self _) (by simp; omega) _ _ _ _ _ _ _ _ _ _, five_sets Hw.out (Nat.le_succ _) _ _ _ _ _ _ _ _ _ _⟩
  rw [results_cell_tmp rfl]
  go_simp
end Go.Proofs.YtacaknkfddlklaaGreatDoor
