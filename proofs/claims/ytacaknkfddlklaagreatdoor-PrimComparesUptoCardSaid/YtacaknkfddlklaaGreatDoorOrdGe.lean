/- Contract of the closure of prim.order over one of its functions. Printed by gen_compare.py. -/
import Derived.Test.YtacaknkfddlklaaGreatDoorCompare
set_option linter.unusedVariables false
set_option linter.unusedSimpArgs false
namespace Go.Proofs.YtacaknkfddlklaaGreatDoor
open Go.RowKit Go.IntWalk

theorem ord_ge (c : Int) (W : World) : Calls Tryz.prog 64 #[.int .i64 c] W fun e w' => e = .returned (.bool (decide (0 ≤ c))) ∧ w' = W := by
  go_enter Tryz.func64, Tryz.ntmps64
  go_wp2
  all_goals go_ret
  all_goals exact ⟨ret_bool (by simp <;> omega), rfl⟩
set_option maxRecDepth 20000 in
set_option maxHeartbeats 2000000 in
theorem prim_ge_int_true (X Y : V) (hX : X.kind = 2) (hY : Y.kind = 2) (ht : decide (0 ≤ compS X Y) = true) (x0 x1 x2 x3 x4 : Value) (A : Option Addr) (c p : Nat) (ok : Nat → Prop) (w : World) (hls : RdVs ok w (.slice A 2 c) 0 [X, Y])
    (hp : w.cell? ⟨p, 0, none⟩ = some (.func (.func 64) #[] #[])) :
    Calls Tryz.prog 106 #[.agg #[x0, x1, x2, x3, x4], .slice A 2 c, .pointer (some ⟨p, 0, none⟩)] w (PlainPost w 1 1 0) := by
  have Hls := Lib.hid hls
  obtain ⟨g, off, A1, c1, B1, d1, rfl, hog, hr0, e0, e1, e2, e3, e4⟩ := hls.elem 0 (by simp)
  obtain ⟨g', off', A2, c2, B2, d2, hgg, hog', hr1, f0, f1, f2, f3, f4⟩ := hls.elem 1 (by simp)
  injection hgg with hgg
  injection hgg with hg1 hg2
  subst hg1 hg2
  simp only [List.getElem_cons_zero, List.getElem_cons_succ, Nat.zero_mul, Nat.one_mul, Nat.add_zero] at e0 e1 e2 e3 e4 f0 f1 f2 f3 f4 hr0 hr1
  have E0 := fun X Y Z => bcell (three_alloc w X Y Z) e0
  have E1 := fun X Y Z => bcell (three_alloc w X Y Z) e1
  have E2 := fun X Y Z => bcell (three_alloc w X Y Z) e2
  have E3 := fun X Y Z => bcell (three_alloc w X Y Z) e3
  have E4 := fun X Y Z => bcell (three_alloc w X Y Z) e4
  have F0 := fun X Y Z => bcell (three_alloc w X Y Z) f0
  have F1 := fun X Y Z => bcell (three_alloc w X Y Z) f1
  have F2 := fun X Y Z => bcell (three_alloc w X Y Z) f2
  have F3 := fun X Y Z => bcell (three_alloc w X Y Z) f3
  have F4 := fun X Y Z => bcell (three_alloc w X Y Z) f4
  have P0 := fun X Y Z => bcell (three_alloc w X Y Z) hp
  have HC := Lib.hid (fun W h1 h2 => value_Compare X Y (valV X A1 c1 B1 d1) (valV Y A2 c2 B2 d2) ok ok W h1 h2)
  have Hr0 := Lib.hid hr0
  have Hr1 := Lib.hid hr1
  have HD := Lib.hid (DoSt.made w x0 x1 x2 x3 x4)
  have HF := Lib.hid (fun W => (ht ▸ ord_ge (compS X Y) W : Calls Tryz.prog 64 #[.int .i64 (compS X Y)] W fun e w' => e = .returned (.bool true) ∧ w' = W))
  have K2 := Lib.hid (show (decide (X.kind = 2) && decide (Y.kind = 2)) = true by simp [hX, hY])
  have K3 := Lib.hid (show (decide (X.kind = 3) && decide (Y.kind = 3)) = false by simp [hX, hY])
  have HP := Lib.hid hp
  clear hls hog hog' hr0 hr1 e0 e1 e2 e3 e4 f0 f1 f2 f3 f4
  clear hX hY ht hp
  generalize compS X Y = cc at *
  go_enter Tryz.func106, Tryz.ntmps106
  go_wp2_with fail
  have hk := fun (W : World) (p : Nat) hb h1 h2 => prim_kinds X Y 2 2 (some ⟨g, off, none⟩) c 2 p ok W (Hls.out.below hb) h1 h2
  refine (hk _ _ (three_alloc _ _ _ _) (World.cell?_alloc_at _ _ _ _ (by simp)) (World.cell?_alloc_at _ _ _ _ (by simp))).mono ?_
  clear hk
  rw [K2.out]
  rintro e w1 ⟨rfl, rfl⟩
  go_wp2_with fail
  go_region_with (first
    | (go_at_call 58; refine (HC.out _ (Hr0.out.below (three_alloc w _ _ _).drew) (Hr1.out.below (three_alloc w _ _ _).drew)).mono ?_; rintro e w1 ⟨rfl, hb⟩; have HD1 := Lib.hid (HD.out.below (bthen (bthen (one_b _ _) drw) hb)); have pf := bcell (bthen (three_alloc w _ _ _).drew hb) HP.out; clear hb)
    | (go_at_call 64; refine (HF.out _).mono ?_; rintro e wn ⟨rfl, rfl⟩)
    | (go_at_call 56; refine (prim_truth _ _).mono ?_; rintro e wn ⟨rfl, rfl⟩; obtain ⟨h0, h1, h2, h3, h4, r0, r1, r2, r3, r4, hf, hw⟩ := HD1.out.below (two_alloc _ (cellsV 1 1) (cellsV 1 1)); have hf0 := hf 0; have hf1 := hf 1; have hf2 := hf 2; have hf3 := hf 3; have hf4 := hf 4; have Hw := Lib.hid hw; clear hw hf))
  all_goals go_wp2
  all_goals refine bodyPost_ret (v := .tuple #[aggV 1 1, .int .i64 0]) ?_ rfl ⟨rfl, five_sets Hw.out (Nat.le_succ _) _ _ _ _ _ _ _ _ _ _⟩
  all_goals rw [results_cell_tmp rfl]
  all_goals go_simp
set_option maxRecDepth 20000 in
set_option maxHeartbeats 2000000 in
theorem prim_ge_int_false (X Y : V) (hX : X.kind = 2) (hY : Y.kind = 2) (ht : decide (0 ≤ compS X Y) = false) (x0 x1 x2 x3 x4 : Value) (A : Option Addr) (c p : Nat) (ok : Nat → Prop) (w : World) (hls : RdVs ok w (.slice A 2 c) 0 [X, Y])
    (hp : w.cell? ⟨p, 0, none⟩ = some (.func (.func 64) #[] #[])) :
    Calls Tryz.prog 106 #[.agg #[x0, x1, x2, x3, x4], .slice A 2 c, .pointer (some ⟨p, 0, none⟩)] w (PlainPost w 1 0 0) := by
  have Hls := Lib.hid hls
  obtain ⟨g, off, A1, c1, B1, d1, rfl, hog, hr0, e0, e1, e2, e3, e4⟩ := hls.elem 0 (by simp)
  obtain ⟨g', off', A2, c2, B2, d2, hgg, hog', hr1, f0, f1, f2, f3, f4⟩ := hls.elem 1 (by simp)
  injection hgg with hgg
  injection hgg with hg1 hg2
  subst hg1 hg2
  simp only [List.getElem_cons_zero, List.getElem_cons_succ, Nat.zero_mul, Nat.one_mul, Nat.add_zero] at e0 e1 e2 e3 e4 f0 f1 f2 f3 f4 hr0 hr1
  have E0 := fun X Y Z => bcell (three_alloc w X Y Z) e0
  have E1 := fun X Y Z => bcell (three_alloc w X Y Z) e1
  have E2 := fun X Y Z => bcell (three_alloc w X Y Z) e2
  have E3 := fun X Y Z => bcell (three_alloc w X Y Z) e3
  have E4 := fun X Y Z => bcell (three_alloc w X Y Z) e4
  have F0 := fun X Y Z => bcell (three_alloc w X Y Z) f0
  have F1 := fun X Y Z => bcell (three_alloc w X Y Z) f1
  have F2 := fun X Y Z => bcell (three_alloc w X Y Z) f2
  have F3 := fun X Y Z => bcell (three_alloc w X Y Z) f3
  have F4 := fun X Y Z => bcell (three_alloc w X Y Z) f4
  have P0 := fun X Y Z => bcell (three_alloc w X Y Z) hp
  have HC := Lib.hid (fun W h1 h2 => value_Compare X Y (valV X A1 c1 B1 d1) (valV Y A2 c2 B2 d2) ok ok W h1 h2)
  have Hr0 := Lib.hid hr0
  have Hr1 := Lib.hid hr1
  have HD := Lib.hid (DoSt.made w x0 x1 x2 x3 x4)
  have HF := Lib.hid (fun W => (ht ▸ ord_ge (compS X Y) W : Calls Tryz.prog 64 #[.int .i64 (compS X Y)] W fun e w' => e = .returned (.bool false) ∧ w' = W))
  have K2 := Lib.hid (show (decide (X.kind = 2) && decide (Y.kind = 2)) = true by simp [hX, hY])
  have K3 := Lib.hid (show (decide (X.kind = 3) && decide (Y.kind = 3)) = false by simp [hX, hY])
  have HP := Lib.hid hp
  clear hls hog hog' hr0 hr1 e0 e1 e2 e3 e4 f0 f1 f2 f3 f4
  clear hX hY ht hp
  generalize compS X Y = cc at *
  go_enter Tryz.func106, Tryz.ntmps106
  go_wp2_with fail
  have hk := fun (W : World) (p : Nat) hb h1 h2 => prim_kinds X Y 2 2 (some ⟨g, off, none⟩) c 2 p ok W (Hls.out.below hb) h1 h2
  refine (hk _ _ (three_alloc _ _ _ _) (World.cell?_alloc_at _ _ _ _ (by simp)) (World.cell?_alloc_at _ _ _ _ (by simp))).mono ?_
  clear hk
  rw [K2.out]
  rintro e w1 ⟨rfl, rfl⟩
  go_wp2_with fail
  go_region_with (first
    | (go_at_call 58; refine (HC.out _ (Hr0.out.below (three_alloc w _ _ _).drew) (Hr1.out.below (three_alloc w _ _ _).drew)).mono ?_; rintro e w1 ⟨rfl, hb⟩; have HD1 := Lib.hid (HD.out.below (bthen (bthen (one_b _ _) drw) hb)); have pf := bcell (bthen (three_alloc w _ _ _).drew hb) HP.out; clear hb)
    | (go_at_call 64; refine (HF.out _).mono ?_; rintro e wn ⟨rfl, rfl⟩)
    | (go_at_call 56; refine (prim_truth _ _).mono ?_; rintro e wn ⟨rfl, rfl⟩; obtain ⟨h0, h1, h2, h3, h4, r0, r1, r2, r3, r4, hf, hw⟩ := HD1.out.below (two_alloc _ (cellsV 1 0) (cellsV 1 0)); have hf0 := hf 0; have hf1 := hf 1; have hf2 := hf 2; have hf3 := hf 3; have hf4 := hf 4; have Hw := Lib.hid hw; clear hw hf))
  all_goals go_wp2
  all_goals refine bodyPost_ret (v := .tuple #[aggV 1 0, .int .i64 0]) ?_ rfl ⟨rfl, five_sets Hw.out (Nat.le_succ _) _ _ _ _ _ _ _ _ _ _⟩
  all_goals rw [results_cell_tmp rfl]
  all_goals go_simp
theorem prim_ge_int (X Y : V) (hX : X.kind = 2) (hY : Y.kind = 2) (x0 x1 x2 x3 x4 : Value) (A : Option Addr) (c p : Nat) (ok : Nat → Prop) (w : World) (hls : RdVs ok w (.slice A 2 c) 0 [X, Y])
    (hp : w.cell? ⟨p, 0, none⟩ = some (.func (.func 64) #[] #[])) :
    Calls Tryz.prog 106 #[.agg #[x0, x1, x2, x3, x4], .slice A 2 c, .pointer (some ⟨p, 0, none⟩)] w (PlainPost w 1 (if 0 ≤ compS X Y then 1 else 0) 0) := by
  by_cases h : 0 ≤ compS X Y
  · rw [if_pos h]; exact prim_ge_int_true X Y hX hY (by simpa using h) x0 x1 x2 x3 x4 A c p ok w hls hp
  · rw [if_neg h]; exact prim_ge_int_false X Y hX hY (by simpa using h) x0 x1 x2 x3 x4 A c p ok w hls hp
set_option maxRecDepth 20000 in
set_option maxHeartbeats 2000000 in
theorem prim_ge_txt_true (X Y : V) (hX : X.kind = 3) (hY : Y.kind = 3) (ht : decide (0 ≤ compS X Y) = true) (x0 x1 x2 x3 x4 : Value) (A : Option Addr) (c p : Nat) (ok : Nat → Prop) (w : World) (hls : RdVs ok w (.slice A 2 c) 0 [X, Y])
    (hp : w.cell? ⟨p, 0, none⟩ = some (.func (.func 64) #[] #[])) :
    Calls Tryz.prog 106 #[.agg #[x0, x1, x2, x3, x4], .slice A 2 c, .pointer (some ⟨p, 0, none⟩)] w (PlainPost w 1 1 0) := by
  have Hls := Lib.hid hls
  obtain ⟨g, off, A1, c1, B1, d1, rfl, hog, hr0, e0, e1, e2, e3, e4⟩ := hls.elem 0 (by simp)
  obtain ⟨g', off', A2, c2, B2, d2, hgg, hog', hr1, f0, f1, f2, f3, f4⟩ := hls.elem 1 (by simp)
  injection hgg with hgg
  injection hgg with hg1 hg2
  subst hg1 hg2
  simp only [List.getElem_cons_zero, List.getElem_cons_succ, Nat.zero_mul, Nat.one_mul, Nat.add_zero] at e0 e1 e2 e3 e4 f0 f1 f2 f3 f4 hr0 hr1
  have E0 := fun X Y Z U => bcell (four_alloc w X Y Z U) e0
  have E1 := fun X Y Z U => bcell (four_alloc w X Y Z U) e1
  have E2 := fun X Y Z U => bcell (four_alloc w X Y Z U) e2
  have E3 := fun X Y Z U => bcell (four_alloc w X Y Z U) e3
  have E4 := fun X Y Z U => bcell (four_alloc w X Y Z U) e4
  have F0 := fun X Y Z U => bcell (four_alloc w X Y Z U) f0
  have F1 := fun X Y Z U => bcell (four_alloc w X Y Z U) f1
  have F2 := fun X Y Z U => bcell (four_alloc w X Y Z U) f2
  have F3 := fun X Y Z U => bcell (four_alloc w X Y Z U) f3
  have F4 := fun X Y Z U => bcell (four_alloc w X Y Z U) f4
  have P0 := fun X Y Z U => bcell (four_alloc w X Y Z U) hp
  have HC := Lib.hid (fun W h1 h2 => value_Compare X Y (valV X A1 c1 B1 d1) (valV Y A2 c2 B2 d2) ok ok W h1 h2)
  have Hr0 := Lib.hid hr0
  have Hr1 := Lib.hid hr1
  have HD := Lib.hid (DoSt.made w x0 x1 x2 x3 x4)
  have HF := Lib.hid (fun W => (ht ▸ ord_ge (compS X Y) W : Calls Tryz.prog 64 #[.int .i64 (compS X Y)] W fun e w' => e = .returned (.bool true) ∧ w' = W))
  have K2 := Lib.hid (show (decide (X.kind = 2) && decide (Y.kind = 2)) = false by simp [hX, hY])
  have K3 := Lib.hid (show (decide (X.kind = 3) && decide (Y.kind = 3)) = true by simp [hX, hY])
  have HP := Lib.hid hp
  clear hls hog hog' hr0 hr1 e0 e1 e2 e3 e4 f0 f1 f2 f3 f4
  clear hX hY ht hp
  generalize compS X Y = cc at *
  go_enter Tryz.func106, Tryz.ntmps106
  go_wp2_with fail
  have hk := fun (W : World) (p : Nat) hb h1 h2 => prim_kinds X Y 2 2 (some ⟨g, off, none⟩) c 2 p ok W (Hls.out.below hb) h1 h2
  refine (hk _ _ (three_alloc _ _ _ _) (World.cell?_alloc_at _ _ _ _ (by simp)) (World.cell?_alloc_at _ _ _ _ (by simp))).mono ?_
  clear hk
  rw [K2.out]
  rintro e w1 ⟨rfl, rfl⟩
  go_wp2_with fail
  have hk := fun (W : World) (p : Nat) hb h1 h2 => prim_kinds X Y 3 3 (some ⟨g, off, none⟩) c 2 p ok W (Hls.out.below hb) h1 h2
  refine (hk _ _ (four_alloc _ _ _ _ _) (World.cell?_alloc_at _ _ _ _ (by simp)) (World.cell?_alloc_at _ _ _ _ (by simp))).mono ?_
  clear hk
  rw [K3.out]
  rintro e w1 ⟨rfl, rfl⟩
  go_wp2_with fail
  go_region_with (first
    | (go_at_call 58; refine (HC.out _ (Hr0.out.below (four_alloc w _ _ _ _).drew) (Hr1.out.below (four_alloc w _ _ _ _).drew)).mono ?_; rintro e w1 ⟨rfl, hb⟩; have HD1 := Lib.hid (HD.out.below (bthen (bthen (two_alloc _ _ _) drw) hb)); have pf := bcell (bthen (four_alloc w _ _ _ _).drew hb) HP.out; clear hb)
    | (go_at_call 64; refine (HF.out _).mono ?_; rintro e wn ⟨rfl, rfl⟩)
    | (go_at_call 56; refine (prim_truth _ _).mono ?_; rintro e wn ⟨rfl, rfl⟩; obtain ⟨h0, h1, h2, h3, h4, r0, r1, r2, r3, r4, hf, hw⟩ := HD1.out.below (two_alloc _ (cellsV 1 1) (cellsV 1 1)); have hf0 := hf 0; have hf1 := hf 1; have hf2 := hf 2; have hf3 := hf 3; have hf4 := hf 4; have Hw := Lib.hid hw; clear hw hf))
  all_goals go_wp2
  all_goals refine bodyPost_ret (v := .tuple #[aggV 1 1, .int .i64 0]) ?_ rfl ⟨rfl, five_sets Hw.out (Nat.le_succ _) _ _ _ _ _ _ _ _ _ _⟩
  all_goals rw [results_cell_tmp rfl]
  all_goals go_simp
set_option maxRecDepth 20000 in
set_option maxHeartbeats 2000000 in
theorem prim_ge_txt_false (X Y : V) (hX : X.kind = 3) (hY : Y.kind = 3) (ht : decide (0 ≤ compS X Y) = false) (x0 x1 x2 x3 x4 : Value) (A : Option Addr) (c p : Nat) (ok : Nat → Prop) (w : World) (hls : RdVs ok w (.slice A 2 c) 0 [X, Y])
    (hp : w.cell? ⟨p, 0, none⟩ = some (.func (.func 64) #[] #[])) :
    Calls Tryz.prog 106 #[.agg #[x0, x1, x2, x3, x4], .slice A 2 c, .pointer (some ⟨p, 0, none⟩)] w (PlainPost w 1 0 0) := by
  have Hls := Lib.hid hls
  obtain ⟨g, off, A1, c1, B1, d1, rfl, hog, hr0, e0, e1, e2, e3, e4⟩ := hls.elem 0 (by simp)
  obtain ⟨g', off', A2, c2, B2, d2, hgg, hog', hr1, f0, f1, f2, f3, f4⟩ := hls.elem 1 (by simp)
  injection hgg with hgg
  injection hgg with hg1 hg2
  subst hg1 hg2
  simp only [List.getElem_cons_zero, List.getElem_cons_succ, Nat.zero_mul, Nat.one_mul, Nat.add_zero] at e0 e1 e2 e3 e4 f0 f1 f2 f3 f4 hr0 hr1
  have E0 := fun X Y Z U => bcell (four_alloc w X Y Z U) e0
  have E1 := fun X Y Z U => bcell (four_alloc w X Y Z U) e1
  have E2 := fun X Y Z U => bcell (four_alloc w X Y Z U) e2
  have E3 := fun X Y Z U => bcell (four_alloc w X Y Z U) e3
  have E4 := fun X Y Z U => bcell (four_alloc w X Y Z U) e4
  have F0 := fun X Y Z U => bcell (four_alloc w X Y Z U) f0
  have F1 := fun X Y Z U => bcell (four_alloc w X Y Z U) f1
  have F2 := fun X Y Z U => bcell (four_alloc w X Y Z U) f2
  have F3 := fun X Y Z U => bcell (four_alloc w X Y Z U) f3
  have F4 := fun X Y Z U => bcell (four_alloc w X Y Z U) f4
  have P0 := fun X Y Z U => bcell (four_alloc w X Y Z U) hp
  have HC := Lib.hid (fun W h1 h2 => value_Compare X Y (valV X A1 c1 B1 d1) (valV Y A2 c2 B2 d2) ok ok W h1 h2)
  have Hr0 := Lib.hid hr0
  have Hr1 := Lib.hid hr1
  have HD := Lib.hid (DoSt.made w x0 x1 x2 x3 x4)
  have HF := Lib.hid (fun W => (ht ▸ ord_ge (compS X Y) W : Calls Tryz.prog 64 #[.int .i64 (compS X Y)] W fun e w' => e = .returned (.bool false) ∧ w' = W))
  have K2 := Lib.hid (show (decide (X.kind = 2) && decide (Y.kind = 2)) = false by simp [hX, hY])
  have K3 := Lib.hid (show (decide (X.kind = 3) && decide (Y.kind = 3)) = true by simp [hX, hY])
  have HP := Lib.hid hp
  clear hls hog hog' hr0 hr1 e0 e1 e2 e3 e4 f0 f1 f2 f3 f4
  clear hX hY ht hp
  generalize compS X Y = cc at *
  go_enter Tryz.func106, Tryz.ntmps106
  go_wp2_with fail
  have hk := fun (W : World) (p : Nat) hb h1 h2 => prim_kinds X Y 2 2 (some ⟨g, off, none⟩) c 2 p ok W (Hls.out.below hb) h1 h2
  refine (hk _ _ (three_alloc _ _ _ _) (World.cell?_alloc_at _ _ _ _ (by simp)) (World.cell?_alloc_at _ _ _ _ (by simp))).mono ?_
  clear hk
  rw [K2.out]
  rintro e w1 ⟨rfl, rfl⟩
  go_wp2_with fail
  have hk := fun (W : World) (p : Nat) hb h1 h2 => prim_kinds X Y 3 3 (some ⟨g, off, none⟩) c 2 p ok W (Hls.out.below hb) h1 h2
  refine (hk _ _ (four_alloc _ _ _ _ _) (World.cell?_alloc_at _ _ _ _ (by simp)) (World.cell?_alloc_at _ _ _ _ (by simp))).mono ?_
  clear hk
  rw [K3.out]
  rintro e w1 ⟨rfl, rfl⟩
  go_wp2_with fail
  go_region_with (first
    | (go_at_call 58; refine (HC.out _ (Hr0.out.below (four_alloc w _ _ _ _).drew) (Hr1.out.below (four_alloc w _ _ _ _).drew)).mono ?_; rintro e w1 ⟨rfl, hb⟩; have HD1 := Lib.hid (HD.out.below (bthen (bthen (two_alloc _ _ _) drw) hb)); have pf := bcell (bthen (four_alloc w _ _ _ _).drew hb) HP.out; clear hb)
    | (go_at_call 64; refine (HF.out _).mono ?_; rintro e wn ⟨rfl, rfl⟩)
    | (go_at_call 56; refine (prim_truth _ _).mono ?_; rintro e wn ⟨rfl, rfl⟩; obtain ⟨h0, h1, h2, h3, h4, r0, r1, r2, r3, r4, hf, hw⟩ := HD1.out.below (two_alloc _ (cellsV 1 0) (cellsV 1 0)); have hf0 := hf 0; have hf1 := hf 1; have hf2 := hf 2; have hf3 := hf 3; have hf4 := hf 4; have Hw := Lib.hid hw; clear hw hf))
  all_goals go_wp2
  all_goals refine bodyPost_ret (v := .tuple #[aggV 1 0, .int .i64 0]) ?_ rfl ⟨rfl, five_sets Hw.out (Nat.le_succ _) _ _ _ _ _ _ _ _ _ _⟩
  all_goals rw [results_cell_tmp rfl]
  all_goals go_simp
theorem prim_ge_txt (X Y : V) (hX : X.kind = 3) (hY : Y.kind = 3) (x0 x1 x2 x3 x4 : Value) (A : Option Addr) (c p : Nat) (ok : Nat → Prop) (w : World) (hls : RdVs ok w (.slice A 2 c) 0 [X, Y])
    (hp : w.cell? ⟨p, 0, none⟩ = some (.func (.func 64) #[] #[])) :
    Calls Tryz.prog 106 #[.agg #[x0, x1, x2, x3, x4], .slice A 2 c, .pointer (some ⟨p, 0, none⟩)] w (PlainPost w 1 (if 0 ≤ compS X Y then 1 else 0) 0) := by
  by_cases h : 0 ≤ compS X Y
  · rw [if_pos h]; exact prim_ge_txt_true X Y hX hY (by simpa using h) x0 x1 x2 x3 x4 A c p ok w hls hp
  · rw [if_neg h]; exact prim_ge_txt_false X Y hX hY (by simpa using h) x0 x1 x2 x3 x4 A c p ok w hls hp
end Go.Proofs.YtacaknkfddlklaaGreatDoor
