/- Contracts of value.Compare, prim's eq, ne, and of the closure of prim.order. Printed by gen_compare.py. -/
import Derived.Test.YtacaknkfddlklaaGreatDoorOrdB
set_option linter.unusedVariables false
set_option linter.unusedSimpArgs false
namespace Go.Proofs.YtacaknkfddlklaaGreatDoor
open Go.RowKit Go.IntWalk

def compS (X Y : V) : Int := if rightB X = true ∧ rightB Y = true then ordS X Y else 0
set_option maxRecDepth 20000 in
set_option maxHeartbeats 2000000 in
theorem value_Compare (X Y : V) (v1 v2 : Value) (ok1 ok2 : Nat → Prop) (w : World) (hv1 : RdV ok1 w v1 X) (hv2 : RdV ok2 w v2 Y) :
    Calls Tryz.prog 58 #[v1, v2] w fun e w' => e = .returned (.int .i64 (compS X Y)) ∧ Below w.heap.size w w' := by
  obtain ⟨A1, c1, B1, d1, rfl, _⟩ := hv1.form
  obtain ⟨A2, c2, B2, d2, rfl, _⟩ := hv2.form
  have Hv1 := Lib.hid hv1
  have Hv2 := Lib.hid hv2
  have HB := Lib.hid (two_boxes w (.int .i64 X.kind) (.int .i64 X.num) (.string ⟨X.str.toArray⟩) (.slice A1 X.parts.length c1) (.slice B1 X.keys.length d1) (.int .i64 Y.kind) (.int .i64 Y.num) (.string ⟨Y.str.toArray⟩) (.slice A2 Y.parts.length c2) (.slice B2 Y.keys.length d2))
  have HS := Lib.hid (SameSt.mk (v1 := valV X A1 c1 B1 d1) (v2 := valV Y A2 c2 B2 d2) HB.out.1 HB.out.2 (two_alloc _ _ _))
  have HRX := Lib.hid (fun W hv => value_Right X (valV X A1 c1 B1 d1) ok1 W hv)
  have HRY := Lib.hid (fun W hv => value_Right Y (valV Y A2 c2 B2 d2) ok2 W hv)
  clear hv1 hv2
  cases hx : rightB X with
  | false =>
    have Hres := Lib.hid (show compS X Y = 0 by simp [compS, hx])
    rw [hx] at HRX
    clear hx
    go_enter Tryz.func58, Tryz.ntmps58
    go_wp2_with fail
    refine (HRX.out _ (Hv1.out.below HS.out.bel)).mono ?_
    rintro e w1 ⟨rfl, hb⟩
    have HB1 := Lib.hid (HS.out.below hb).bel
    clear hb
    go_wp2_with fail
    go_ret
    rw [Hres.out]
    exact ⟨rfl, HB1.out⟩
  | true =>
    rw [hx] at HRX
    cases hy : rightB Y with
    | false =>
      have Hres := Lib.hid (show compS X Y = 0 by simp [compS, hy])
      rw [hy] at HRY
      clear hx hy
      go_enter Tryz.func58, Tryz.ntmps58
      go_wp2_with fail
      refine (HRX.out _ (Hv1.out.below HS.out.bel)).mono ?_
      rintro e w1 ⟨rfl, hb⟩
      have HS1 := Lib.hid (HS.out.below hb)
      clear hb
      obtain ⟨q0, q1, q2, q3, q4⟩ := HS1.out.two.get
      go_wp2_with fail
      refine (HRY.out _ (Hv2.out.below HS1.out.bel)).mono ?_
      rintro e w2 ⟨rfl, hb⟩
      have HB2 := Lib.hid (HS1.out.below hb).bel
      clear hb q0 q1 q2 q3 q4
      go_wp2_with fail
      go_ret
      rw [Hres.out]
      exact ⟨rfl, HB2.out⟩
    | true =>
      have Hres := Lib.hid (show compS X Y = ordS X Y by simp [compS, hx, hy])
      rw [hy] at HRY
      have HO := Lib.hid (fun W h1 h2 => value_order (SizeOf.sizeOf X) X Y (valV X A1 c1 B1 d1) (valV Y A2 c2 B2 d2) ok1 ok2 W h1 h2 (rightish_of hx) (rightish_of hy) (Nat.le_refl _))
      clear hx hy
      go_enter Tryz.func58, Tryz.ntmps58
      go_wp2_with fail
      refine (HRX.out _ (Hv1.out.below HS.out.bel)).mono ?_
      rintro e w1 ⟨rfl, hb⟩
      have HS1 := Lib.hid (HS.out.below hb)
      clear hb
      obtain ⟨q0, q1, q2, q3, q4⟩ := HS1.out.two.get
      go_wp2_with fail
      refine (HRY.out _ (Hv2.out.below HS1.out.bel)).mono ?_
      rintro e w2 ⟨rfl, hb⟩
      have HS2 := Lib.hid (HS1.out.below hb)
      clear hb q0 q1 q2 q3 q4
      obtain ⟨p0, p1, p2, p3, p4⟩ := HS2.out.one.get
      obtain ⟨q0, q1, q2, q3, q4⟩ := HS2.out.two.get
      go_wp2_with fail
      refine (HO.out _ (Hv1.out.below HS2.out.bel) (Hv2.out.below HS2.out.bel)).mono ?_
      rintro e w3 ⟨rfl, hb⟩
      have HB3 := Lib.hid (HS2.out.below hb).bel
      clear hb p0 p1 p2 p3 p4 q0 q1 q2 q3 q4
      go_wp2_with fail
      go_ret
      rw [Hres.out]
      exact ⟨rfl, HB3.out⟩
set_option maxRecDepth 20000 in
set_option maxHeartbeats 2000000 in
theorem prim_eq1 (X Y : V) (hc : compS X Y = 0) (x0 x1 x2 x3 x4 : Value) (A : Option Addr) (c : Nat) (ok : Nat → Prop) (w : World) (hls : RdVs ok w (.slice A 2 c) 0 [X, Y]) :
    Calls Tryz.prog 57 #[.agg #[x0, x1, x2, x3, x4], .slice A 2 c] w (PlainPost w 1 1 0) := by
  have Hls := Lib.hid hls
  obtain ⟨g, off, A1, c1, B1, d1, rfl, hog, hr0, e0, e1, e2, e3, e4⟩ := hls.elem 0 (by simp)
  obtain ⟨g', off', A2, c2, B2, d2, hgg, hog', hr1, f0, f1, f2, f3, f4⟩ := hls.elem 1 (by simp)
  injection hgg with hgg
  injection hgg with hg1 hg2
  subst hg1 hg2
  simp only [List.getElem_cons_zero, List.getElem_cons_succ, Nat.zero_mul, Nat.one_mul, Nat.add_zero] at e0 e1 e2 e3 e4 f0 f1 f2 f3 f4 hr0 hr1
  have E0 := fun X Y => bcell (two_alloc w X Y) e0
  have E1 := fun X Y => bcell (two_alloc w X Y) e1
  have E2 := fun X Y => bcell (two_alloc w X Y) e2
  have E3 := fun X Y => bcell (two_alloc w X Y) e3
  have E4 := fun X Y => bcell (two_alloc w X Y) e4
  have F0 := fun X Y => bcell (two_alloc w X Y) f0
  have F1 := fun X Y => bcell (two_alloc w X Y) f1
  have F2 := fun X Y => bcell (two_alloc w X Y) f2
  have F3 := fun X Y => bcell (two_alloc w X Y) f3
  have F4 := fun X Y => bcell (two_alloc w X Y) f4
  have HC := Lib.hid (fun W h1 h2 => value_Compare X Y (valV X A1 c1 B1 d1) (valV Y A2 c2 B2 d2) ok ok W h1 h2)
  have Hr0 := Lib.hid hr0
  have Hr1 := Lib.hid hr1
  have HD := Lib.hid (DoSt.made w x0 x1 x2 x3 x4)
  have gc : (compS X Y == 0) = true := by simpa using hc
  have gn : (compS X Y != 0) = false := by simpa using hc
  clear hls hog hog' hr0 hr1 e0 e1 e2 e3 e4 f0 f1 f2 f3 f4
  clear hc
  generalize compS X Y = cc at *
  go_enter Tryz.func57, Tryz.ntmps57
  go_wp2_with fail
  go_region_with (first
    | (go_at_call 58; refine (HC.out _ (Hr0.out.below (two_alloc w _ _).drew) (Hr1.out.below (two_alloc w _ _).drew)).mono ?_; rintro e w1 ⟨rfl, hb⟩; have HD1 := Lib.hid (HD.out.below (bthen drw hb)); clear hb)
    | (go_at_call 56; refine (prim_truth _ _).mono ?_; rintro e wn ⟨rfl, rfl⟩; obtain ⟨h0, h1, h2, h3, h4, r0, r1, r2, r3, r4, hf, hw⟩ := HD1.out.below (two_alloc _ (cellsV 1 1) (cellsV 1 1)); have hf0 := hf 0; have hf1 := hf 1; have hf2 := hf 2; have hf3 := hf 3; have hf4 := hf 4; have Hw := Lib.hid hw; clear hw hf))
  all_goals go_wp2
  all_goals refine bodyPost_ret (v := .tuple #[aggV 1 1, .int .i64 0]) ?_ rfl ⟨rfl, five_sets Hw.out (Nat.le_succ _) _ _ _ _ _ _ _ _ _ _⟩
  all_goals rw [results_cell_tmp rfl]
  all_goals go_simp
set_option maxRecDepth 20000 in
set_option maxHeartbeats 2000000 in
theorem prim_eq0 (X Y : V) (hc : compS X Y ≠ 0) (x0 x1 x2 x3 x4 : Value) (A : Option Addr) (c : Nat) (ok : Nat → Prop) (w : World) (hls : RdVs ok w (.slice A 2 c) 0 [X, Y]) :
    Calls Tryz.prog 57 #[.agg #[x0, x1, x2, x3, x4], .slice A 2 c] w (PlainPost w 1 0 0) := by
  have Hls := Lib.hid hls
  obtain ⟨g, off, A1, c1, B1, d1, rfl, hog, hr0, e0, e1, e2, e3, e4⟩ := hls.elem 0 (by simp)
  obtain ⟨g', off', A2, c2, B2, d2, hgg, hog', hr1, f0, f1, f2, f3, f4⟩ := hls.elem 1 (by simp)
  injection hgg with hgg
  injection hgg with hg1 hg2
  subst hg1 hg2
  simp only [List.getElem_cons_zero, List.getElem_cons_succ, Nat.zero_mul, Nat.one_mul, Nat.add_zero] at e0 e1 e2 e3 e4 f0 f1 f2 f3 f4 hr0 hr1
  have E0 := fun X Y => bcell (two_alloc w X Y) e0
  have E1 := fun X Y => bcell (two_alloc w X Y) e1
  have E2 := fun X Y => bcell (two_alloc w X Y) e2
  have E3 := fun X Y => bcell (two_alloc w X Y) e3
  have E4 := fun X Y => bcell (two_alloc w X Y) e4
  have F0 := fun X Y => bcell (two_alloc w X Y) f0
  have F1 := fun X Y => bcell (two_alloc w X Y) f1
  have F2 := fun X Y => bcell (two_alloc w X Y) f2
  have F3 := fun X Y => bcell (two_alloc w X Y) f3
  have F4 := fun X Y => bcell (two_alloc w X Y) f4
  have HC := Lib.hid (fun W h1 h2 => value_Compare X Y (valV X A1 c1 B1 d1) (valV Y A2 c2 B2 d2) ok ok W h1 h2)
  have Hr0 := Lib.hid hr0
  have Hr1 := Lib.hid hr1
  have HD := Lib.hid (DoSt.made w x0 x1 x2 x3 x4)
  have gc : (compS X Y == 0) = false := by simpa using hc
  have gn : (compS X Y != 0) = true := by simpa using hc
  clear hls hog hog' hr0 hr1 e0 e1 e2 e3 e4 f0 f1 f2 f3 f4
  clear hc
  generalize compS X Y = cc at *
  go_enter Tryz.func57, Tryz.ntmps57
  go_wp2_with fail
  go_region_with (first
    | (go_at_call 58; refine (HC.out _ (Hr0.out.below (two_alloc w _ _).drew) (Hr1.out.below (two_alloc w _ _).drew)).mono ?_; rintro e w1 ⟨rfl, hb⟩; have HD1 := Lib.hid (HD.out.below (bthen drw hb)); clear hb)
    | (go_at_call 56; refine (prim_truth _ _).mono ?_; rintro e wn ⟨rfl, rfl⟩; obtain ⟨h0, h1, h2, h3, h4, r0, r1, r2, r3, r4, hf, hw⟩ := HD1.out.below (two_alloc _ (cellsV 1 0) (cellsV 1 0)); have hf0 := hf 0; have hf1 := hf 1; have hf2 := hf 2; have hf3 := hf 3; have hf4 := hf 4; have Hw := Lib.hid hw; clear hw hf))
  all_goals go_wp2
  all_goals refine bodyPost_ret (v := .tuple #[aggV 1 0, .int .i64 0]) ?_ rfl ⟨rfl, five_sets Hw.out (Nat.le_succ _) _ _ _ _ _ _ _ _ _ _⟩
  all_goals rw [results_cell_tmp rfl]
  all_goals go_simp
set_option maxRecDepth 20000 in
set_option maxHeartbeats 2000000 in
theorem prim_ne1 (X Y : V) (hc : compS X Y ≠ 0) (x0 x1 x2 x3 x4 : Value) (A : Option Addr) (c : Nat) (ok : Nat → Prop) (w : World) (hls : RdVs ok w (.slice A 2 c) 0 [X, Y]) :
    Calls Tryz.prog 59 #[.agg #[x0, x1, x2, x3, x4], .slice A 2 c] w (PlainPost w 1 1 0) := by
  have Hls := Lib.hid hls
  obtain ⟨g, off, A1, c1, B1, d1, rfl, hog, hr0, e0, e1, e2, e3, e4⟩ := hls.elem 0 (by simp)
  obtain ⟨g', off', A2, c2, B2, d2, hgg, hog', hr1, f0, f1, f2, f3, f4⟩ := hls.elem 1 (by simp)
  injection hgg with hgg
  injection hgg with hg1 hg2
  subst hg1 hg2
  simp only [List.getElem_cons_zero, List.getElem_cons_succ, Nat.zero_mul, Nat.one_mul, Nat.add_zero] at e0 e1 e2 e3 e4 f0 f1 f2 f3 f4 hr0 hr1
  have E0 := fun X Y => bcell (two_alloc w X Y) e0
  have E1 := fun X Y => bcell (two_alloc w X Y) e1
  have E2 := fun X Y => bcell (two_alloc w X Y) e2
  have E3 := fun X Y => bcell (two_alloc w X Y) e3
  have E4 := fun X Y => bcell (two_alloc w X Y) e4
  have F0 := fun X Y => bcell (two_alloc w X Y) f0
  have F1 := fun X Y => bcell (two_alloc w X Y) f1
  have F2 := fun X Y => bcell (two_alloc w X Y) f2
  have F3 := fun X Y => bcell (two_alloc w X Y) f3
  have F4 := fun X Y => bcell (two_alloc w X Y) f4
  have HC := Lib.hid (fun W h1 h2 => value_Compare X Y (valV X A1 c1 B1 d1) (valV Y A2 c2 B2 d2) ok ok W h1 h2)
  have Hr0 := Lib.hid hr0
  have Hr1 := Lib.hid hr1
  have HD := Lib.hid (DoSt.made w x0 x1 x2 x3 x4)
  have gc : (compS X Y == 0) = false := by simpa using hc
  have gn : (compS X Y != 0) = true := by simpa using hc
  clear hls hog hog' hr0 hr1 e0 e1 e2 e3 e4 f0 f1 f2 f3 f4
  clear hc
  generalize compS X Y = cc at *
  go_enter Tryz.func59, Tryz.ntmps59
  go_wp2_with fail
  go_region_with (first
    | (go_at_call 58; refine (HC.out _ (Hr0.out.below (two_alloc w _ _).drew) (Hr1.out.below (two_alloc w _ _).drew)).mono ?_; rintro e w1 ⟨rfl, hb⟩; have HD1 := Lib.hid (HD.out.below (bthen drw hb)); clear hb)
    | (go_at_call 56; refine (prim_truth _ _).mono ?_; rintro e wn ⟨rfl, rfl⟩; obtain ⟨h0, h1, h2, h3, h4, r0, r1, r2, r3, r4, hf, hw⟩ := HD1.out.below (two_alloc _ (cellsV 1 1) (cellsV 1 1)); have hf0 := hf 0; have hf1 := hf 1; have hf2 := hf 2; have hf3 := hf 3; have hf4 := hf 4; have Hw := Lib.hid hw; clear hw hf))
  all_goals go_wp2
  all_goals refine bodyPost_ret (v := .tuple #[aggV 1 1, .int .i64 0]) ?_ rfl ⟨rfl, five_sets Hw.out (Nat.le_succ _) _ _ _ _ _ _ _ _ _ _⟩
  all_goals rw [results_cell_tmp rfl]
  all_goals go_simp
set_option maxRecDepth 20000 in
set_option maxHeartbeats 2000000 in
theorem prim_ne0 (X Y : V) (hc : compS X Y = 0) (x0 x1 x2 x3 x4 : Value) (A : Option Addr) (c : Nat) (ok : Nat → Prop) (w : World) (hls : RdVs ok w (.slice A 2 c) 0 [X, Y]) :
    Calls Tryz.prog 59 #[.agg #[x0, x1, x2, x3, x4], .slice A 2 c] w (PlainPost w 1 0 0) := by
  have Hls := Lib.hid hls
  obtain ⟨g, off, A1, c1, B1, d1, rfl, hog, hr0, e0, e1, e2, e3, e4⟩ := hls.elem 0 (by simp)
  obtain ⟨g', off', A2, c2, B2, d2, hgg, hog', hr1, f0, f1, f2, f3, f4⟩ := hls.elem 1 (by simp)
  injection hgg with hgg
  injection hgg with hg1 hg2
  subst hg1 hg2
  simp only [List.getElem_cons_zero, List.getElem_cons_succ, Nat.zero_mul, Nat.one_mul, Nat.add_zero] at e0 e1 e2 e3 e4 f0 f1 f2 f3 f4 hr0 hr1
  have E0 := fun X Y => bcell (two_alloc w X Y) e0
  have E1 := fun X Y => bcell (two_alloc w X Y) e1
  have E2 := fun X Y => bcell (two_alloc w X Y) e2
  have E3 := fun X Y => bcell (two_alloc w X Y) e3
  have E4 := fun X Y => bcell (two_alloc w X Y) e4
  have F0 := fun X Y => bcell (two_alloc w X Y) f0
  have F1 := fun X Y => bcell (two_alloc w X Y) f1
  have F2 := fun X Y => bcell (two_alloc w X Y) f2
  have F3 := fun X Y => bcell (two_alloc w X Y) f3
  have F4 := fun X Y => bcell (two_alloc w X Y) f4
  have HC := Lib.hid (fun W h1 h2 => value_Compare X Y (valV X A1 c1 B1 d1) (valV Y A2 c2 B2 d2) ok ok W h1 h2)
  have Hr0 := Lib.hid hr0
  have Hr1 := Lib.hid hr1
  have HD := Lib.hid (DoSt.made w x0 x1 x2 x3 x4)
  have gc : (compS X Y == 0) = true := by simpa using hc
  have gn : (compS X Y != 0) = false := by simpa using hc
  clear hls hog hog' hr0 hr1 e0 e1 e2 e3 e4 f0 f1 f2 f3 f4
  clear hc
  generalize compS X Y = cc at *
  go_enter Tryz.func59, Tryz.ntmps59
  go_wp2_with fail
  go_region_with (first
    | (go_at_call 58; refine (HC.out _ (Hr0.out.below (two_alloc w _ _).drew) (Hr1.out.below (two_alloc w _ _).drew)).mono ?_; rintro e w1 ⟨rfl, hb⟩; have HD1 := Lib.hid (HD.out.below (bthen drw hb)); clear hb)
    | (go_at_call 56; refine (prim_truth _ _).mono ?_; rintro e wn ⟨rfl, rfl⟩; obtain ⟨h0, h1, h2, h3, h4, r0, r1, r2, r3, r4, hf, hw⟩ := HD1.out.below (two_alloc _ (cellsV 1 0) (cellsV 1 0)); have hf0 := hf 0; have hf1 := hf 1; have hf2 := hf 2; have hf3 := hf 3; have hf4 := hf 4; have Hw := Lib.hid hw; clear hw hf))
  all_goals go_wp2
  all_goals refine bodyPost_ret (v := .tuple #[aggV 1 0, .int .i64 0]) ?_ rfl ⟨rfl, five_sets Hw.out (Nat.le_succ _) _ _ _ _ _ _ _ _ _ _⟩
  all_goals rw [results_cell_tmp rfl]
  all_goals go_simp
end Go.Proofs.YtacaknkfddlklaaGreatDoor
