/- Contracts of the closure of prim.ints. Printed by gen_ints.py. Contracts of prim's neg, not and add (of numbers). Contract of prim.add at two numbers. -/
import Derived.Test.YtacaknkfddlklaaGreatDoorTabB
import Derived.WalkSpells
import Derived.Deep.MidRow
import Derived.Deep.RegionHeld3
import Derived.Deep.QuietTactic
set_option linter.unusedVariables false
set_option linter.unusedSimpArgs false
namespace Go.Proofs.YtacaknkfddlklaaGreatDoor
open Go.RowKit Go.IntWalk

theorem five_alloc (w : World) (X Y Z U T : Obj) : Below w.heap.size w ((((((w.alloc X).alloc Y).alloc Z).alloc U).alloc T)).drew :=
  ((((((Below.refl _ _).alloc (Nat.le_refl _) X).alloc (by simp) Y).alloc (by simp; omega) Z).alloc (by simp; omega) U).alloc (by simp; omega) T).drew
theorem three_alloc (w : World) (X Y Z : Obj) : Below w.heap.size w (((w.alloc X).alloc Y).alloc Z) := (((Below.refl _ _).alloc (Nat.le_refl _) X).alloc (by simp) Y).alloc (by simp; omega) Z
theorem four_alloc (w : World) (X Y Z U : Obj) : Below w.heap.size w ((((w.alloc X).alloc Y).alloc Z).alloc U) := ((((Below.refl _ _).alloc (Nat.le_refl _) X).alloc (by simp) Y).alloc (by simp; omega) Z).alloc (by simp; omega) U
set_option maxRecDepth 20000 in
set_option maxHeartbeats 1000000 in
/-- other kinds: the trap -/
theorem prim_ints_not (X Y : V) (hk : ¬ (X.kind = 2 ∧ Y.kind = 2)) (x0 x1 x2 x3 x4 c0 : Value) (A : Option Addr) (c : Nat) (ok : Nat → Prop) (w : World) (hls : RdVs ok w (.slice A 2 c) 0 [X, Y]) :
    Calls Tryz.prog 103 #[.agg #[x0, x1, x2, x3, x4], .slice A 2 c, c0] w (PlainPost w 0 0 3) := by
  have hb0 : ∀ X Y Z : Obj, Below w.heap.size w (((w.alloc X).alloc Y).alloc Z) := fun X Y Z => three_alloc _ _ _ _
  have hkk : (decide (X.kind = 2) && decide (Y.kind = 2)) = false := by
    rw [Bool.eq_false_iff]; intro h; simp at h; exact hk h
  have HB0 := Lib.hid hb0
  have Hls := Lib.hid hls
  have Hkk := Lib.hid hkk
  clear hb0 hls hk hkk
  go_enter Tryz.func103, Tryz.ntmps103
  go_wp2_with fail
  have hk := fun (U V W : Obj) h1 h2 => prim_kinds X Y 2 2 A c 2 (w.heap.size + 1 + 1) ok (((w.alloc U).alloc V).alloc W) (Hls.out.below (HB0.out U V W)) h1 h2
  refine (hk _ _ _ (World.cell?_alloc_at _ _ _ _ (by simp)) (World.cell?_alloc_at _ _ _ _ (by simp))).mono ?_
  clear hk
  rw [Hkk.out]
  rintro e w1 ⟨rfl, rfl⟩
  go_wp2_with fail
  refine (prim_trapped _ _).mono ?_
  rintro e w1 ⟨rfl, rfl⟩
  go_wp2
  refine bodyPost_ret (v := .tuple #[aggV 0 0, .int .i64 3]) ?_ rfl ⟨rfl, four_alloc _ _ _ _ _⟩
  rw [results_cell_tmp rfl]
  go_simp
set_option maxRecDepth 20000 in
set_option maxHeartbeats 1000000 in
theorem prim_ints_sub (X Y : V) (hX : X.kind = 2) (hY : Y.kind = 2) (x0 x1 x2 x3 x4 : Value) (A : Option Addr) (c p : Nat) (ok : Nat → Prop) (w : World) (hls : RdVs ok w (.slice A 2 c) 0 [X, Y])
    (hp : w.cell? ⟨p, 0, none⟩ = some (.func (.func 48) #[] #[])) :
    Calls Tryz.prog 103 #[.agg #[x0, x1, x2, x3, x4], .slice A 2 c, .pointer (some ⟨p, 0, none⟩)] w (PlainPost w 2 (wrap64 (X.num - Y.num)) 0) := by
  have hb0 : ∀ X Y Z : Obj, Below w.heap.size w (((w.alloc X).alloc Y).alloc Z) := fun X Y Z => three_alloc _ _ _ _
  have hkk : (decide (X.kind = 2) && decide (Y.kind = 2)) = true := by simp [hX, hY]
  have HB0 := Lib.hid hb0
  have Hp := Lib.hid hp
  have Hls := Lib.hid hls
  have Hkk := Lib.hid hkk
  clear hb0 hp hls hkk hX hY
  go_enter Tryz.func103, Tryz.ntmps103
  go_wp2_with fail
  have hk := fun (U V W : Obj) h1 h2 => prim_kinds X Y 2 2 A c 2 (w.heap.size + 1 + 1) ok (((w.alloc U).alloc V).alloc W) (Hls.out.below (HB0.out U V W)) h1 h2
  refine (hk _ _ _ (World.cell?_alloc_at _ _ _ _ (by simp)) (World.cell?_alloc_at _ _ _ _ (by simp))).mono ?_
  clear hk
  rw [Hkk.out]
  rintro e w1 ⟨rfl, rfl⟩
  go_wp2_with fail
  have hq := Hls.out
  obtain ⟨g, off, A1, c1, B1, d1, rfl, hog, hr0, e0, e1, e2, e3, e4⟩ := hq.elem 0 (by simp)
  obtain ⟨g', off', A2, c2, B2, d2, hgg, hog', hr1, f0, f1, f2, f3, f4⟩ := hq.elem 1 (by simp)
  injection hgg with hgg
  injection hgg with hg1 hg2
  subst hg1 hg2
  simp only [List.getElem_cons_zero, List.getElem_cons_succ, Nat.zero_mul, Nat.one_mul, Nat.add_zero] at e1 f1
  have c1 := fun X Y Z => bcell (HB0.out X Y Z) e1
  have c2 := fun X Y Z => bcell (HB0.out X Y Z) f1
  have c3 := fun X Y Z => bcell (HB0.out X Y Z) Hp.out
  clear hq hr0 hr1 e0 e1 e2 e3 e4 f0 f1 f2 f3 f4
  go_region_with (refine (prim_sub _ _ _).mono ?_; rintro e w1 ⟨rfl, rfl⟩)
  all_goals go_wp2
  all_goals refine bodyPost_ret (v := .tuple #[aggV 2 (wrap64 (X.num - Y.num)), .int .i64 0]) ?_ rfl ⟨rfl, ?_⟩
  all_goals first | (rw [results_cell_tmp rfl]; go_simp; done) | exact five_alloc _ _ _ _ _ _
set_option maxRecDepth 20000 in
set_option maxHeartbeats 1000000 in
theorem prim_ints_mul (X Y : V) (hX : X.kind = 2) (hY : Y.kind = 2) (x0 x1 x2 x3 x4 : Value) (A : Option Addr) (c p : Nat) (ok : Nat → Prop) (w : World) (hls : RdVs ok w (.slice A 2 c) 0 [X, Y])
    (hp : w.cell? ⟨p, 0, none⟩ = some (.func (.func 50) #[] #[])) :
    Calls Tryz.prog 103 #[.agg #[x0, x1, x2, x3, x4], .slice A 2 c, .pointer (some ⟨p, 0, none⟩)] w (PlainPost w 2 (wrap64 (X.num * Y.num)) 0) := by
  have hb0 : ∀ X Y Z : Obj, Below w.heap.size w (((w.alloc X).alloc Y).alloc Z) := fun X Y Z => three_alloc _ _ _ _
  have hkk : (decide (X.kind = 2) && decide (Y.kind = 2)) = true := by simp [hX, hY]
  have HB0 := Lib.hid hb0
  have Hp := Lib.hid hp
  have Hls := Lib.hid hls
  have Hkk := Lib.hid hkk
  clear hb0 hp hls hkk hX hY
  go_enter Tryz.func103, Tryz.ntmps103
  go_wp2_with fail
  have hk := fun (U V W : Obj) h1 h2 => prim_kinds X Y 2 2 A c 2 (w.heap.size + 1 + 1) ok (((w.alloc U).alloc V).alloc W) (Hls.out.below (HB0.out U V W)) h1 h2
  refine (hk _ _ _ (World.cell?_alloc_at _ _ _ _ (by simp)) (World.cell?_alloc_at _ _ _ _ (by simp))).mono ?_
  clear hk
  rw [Hkk.out]
  rintro e w1 ⟨rfl, rfl⟩
  go_wp2_with fail
  have hq := Hls.out
  obtain ⟨g, off, A1, c1, B1, d1, rfl, hog, hr0, e0, e1, e2, e3, e4⟩ := hq.elem 0 (by simp)
  obtain ⟨g', off', A2, c2, B2, d2, hgg, hog', hr1, f0, f1, f2, f3, f4⟩ := hq.elem 1 (by simp)
  injection hgg with hgg
  injection hgg with hg1 hg2
  subst hg1 hg2
  simp only [List.getElem_cons_zero, List.getElem_cons_succ, Nat.zero_mul, Nat.one_mul, Nat.add_zero] at e1 f1
  have c1 := fun X Y Z => bcell (HB0.out X Y Z) e1
  have c2 := fun X Y Z => bcell (HB0.out X Y Z) f1
  have c3 := fun X Y Z => bcell (HB0.out X Y Z) Hp.out
  clear hq hr0 hr1 e0 e1 e2 e3 e4 f0 f1 f2 f3 f4
  go_region_with (refine (prim_mul _ _ _).mono ?_; rintro e w1 ⟨rfl, rfl⟩)
  all_goals go_wp2
  all_goals refine bodyPost_ret (v := .tuple #[aggV 2 (wrap64 (X.num * Y.num)), .int .i64 0]) ?_ rfl ⟨rfl, ?_⟩
  all_goals first | (rw [results_cell_tmp rfl]; go_simp; done) | exact five_alloc _ _ _ _ _ _
set_option maxRecDepth 20000 in
set_option maxHeartbeats 1000000 in
theorem prim_ints_quo (X Y : V) (hX : X.kind = 2) (hY : Y.kind = 2) (hz : Y.num ≠ 0) (x0 x1 x2 x3 x4 : Value) (A : Option Addr) (c p q : Nat) (ok : Nat → Prop) (w : World) (hls : RdVs ok w (.slice A 2 c) 0 [X, Y])
    (hp : w.cell? ⟨p, 0, none⟩ = some (clos 104 q)) (hq : w.cell? ⟨q, 0, none⟩ = some (.func (.func 52) #[] #[])) :
    Calls Tryz.prog 103 #[.agg #[x0, x1, x2, x3, x4], .slice A 2 c, .pointer (some ⟨p, 0, none⟩)] w (PlainPost w 2 (wrap64 (X.num.tdiv Y.num)) 0) := by
  have hb0 : ∀ X Y Z : Obj, Below w.heap.size w (((w.alloc X).alloc Y).alloc Z) := fun X Y Z => three_alloc _ _ _ _
  have hkk : (decide (X.kind = 2) && decide (Y.kind = 2)) = true := by simp [hX, hY]
  have HB0 := Lib.hid hb0
  have Hp := Lib.hid hp
  have Hq := Lib.hid hq
  have Hls := Lib.hid hls
  have Hkk := Lib.hid hkk
  have hcall := fun (W : World) h => prim_div_quo W X.num Y.num q h
  simp only [if_neg hz] at hcall
  have HC := Lib.hid hcall
  have CQ := Lib.hid (fun (X0 Y0 Z0 : Obj) => bcell (hb0 X0 Y0 Z0) hq)
  have CD := Lib.hid (fun (X0 Y0 Z0 : Obj) => bcell (hb0 X0 Y0 Z0).drew hq)
  clear hcall
  clear hb0 hp hq hz hls hkk hX hY
  go_enter Tryz.func103, Tryz.ntmps103
  go_wp2_with fail
  have hk := fun (U V W : Obj) h1 h2 => prim_kinds X Y 2 2 A c 2 (w.heap.size + 1 + 1) ok (((w.alloc U).alloc V).alloc W) (Hls.out.below (HB0.out U V W)) h1 h2
  refine (hk _ _ _ (World.cell?_alloc_at _ _ _ _ (by simp)) (World.cell?_alloc_at _ _ _ _ (by simp))).mono ?_
  clear hk
  rw [Hkk.out]
  rintro e w1 ⟨rfl, rfl⟩
  go_wp2_with fail
  have hq := Hls.out
  obtain ⟨g, off, A1, c1, B1, d1, rfl, hog, hr0, e0, e1, e2, e3, e4⟩ := hq.elem 0 (by simp)
  obtain ⟨g', off', A2, c2, B2, d2, hgg, hog', hr1, f0, f1, f2, f3, f4⟩ := hq.elem 1 (by simp)
  injection hgg with hgg
  injection hgg with hg1 hg2
  subst hg1 hg2
  simp only [List.getElem_cons_zero, List.getElem_cons_succ, Nat.zero_mul, Nat.one_mul, Nat.add_zero] at e1 f1
  have c1 := fun X Y Z => bcell (HB0.out X Y Z) e1
  have c2 := fun X Y Z => bcell (HB0.out X Y Z) f1
  have c3 := fun X Y Z => bcell (HB0.out X Y Z) Hp.out
  clear hq hr0 hr1 e0 e1 e2 e3 e4 f0 f1 f2 f3 f4
  go_region_with ((first | refine (HC.out _ (CQ.out _ _ _)).mono ?_ | refine (HC.out _ (CD.out _ _ _)).mono ?_); rintro e w1 ⟨rfl, rfl⟩)
  all_goals go_wp2
  all_goals refine bodyPost_ret (v := .tuple #[aggV 2 (wrap64 (X.num.tdiv Y.num)), .int .i64 0]) ?_ rfl ⟨rfl, ?_⟩
  all_goals first | (rw [results_cell_tmp rfl]; go_simp; done) | exact five_alloc _ _ _ _ _ _
set_option maxRecDepth 20000 in
set_option maxHeartbeats 1000000 in
theorem prim_ints_rem (X Y : V) (hX : X.kind = 2) (hY : Y.kind = 2) (hz : Y.num ≠ 0) (x0 x1 x2 x3 x4 : Value) (A : Option Addr) (c p q : Nat) (ok : Nat → Prop) (w : World) (hls : RdVs ok w (.slice A 2 c) 0 [X, Y])
    (hp : w.cell? ⟨p, 0, none⟩ = some (clos 104 q)) (hq : w.cell? ⟨q, 0, none⟩ = some (.func (.func 53) #[] #[])) :
    Calls Tryz.prog 103 #[.agg #[x0, x1, x2, x3, x4], .slice A 2 c, .pointer (some ⟨p, 0, none⟩)] w (PlainPost w 2 (X.num.tmod Y.num) 0) := by
  have hb0 : ∀ X Y Z : Obj, Below w.heap.size w (((w.alloc X).alloc Y).alloc Z) := fun X Y Z => three_alloc _ _ _ _
  have hkk : (decide (X.kind = 2) && decide (Y.kind = 2)) = true := by simp [hX, hY]
  have HB0 := Lib.hid hb0
  have Hp := Lib.hid hp
  have Hq := Lib.hid hq
  have Hls := Lib.hid hls
  have Hkk := Lib.hid hkk
  have hcall := fun (W : World) h => prim_div_rem W X.num Y.num q h
  simp only [if_neg hz] at hcall
  have HC := Lib.hid hcall
  have CQ := Lib.hid (fun (X0 Y0 Z0 : Obj) => bcell (hb0 X0 Y0 Z0) hq)
  have CD := Lib.hid (fun (X0 Y0 Z0 : Obj) => bcell (hb0 X0 Y0 Z0).drew hq)
  clear hcall
  clear hb0 hp hq hz hls hkk hX hY
  go_enter Tryz.func103, Tryz.ntmps103
  go_wp2_with fail
  have hk := fun (U V W : Obj) h1 h2 => prim_kinds X Y 2 2 A c 2 (w.heap.size + 1 + 1) ok (((w.alloc U).alloc V).alloc W) (Hls.out.below (HB0.out U V W)) h1 h2
  refine (hk _ _ _ (World.cell?_alloc_at _ _ _ _ (by simp)) (World.cell?_alloc_at _ _ _ _ (by simp))).mono ?_
  clear hk
  rw [Hkk.out]
  rintro e w1 ⟨rfl, rfl⟩
  go_wp2_with fail
  have hq := Hls.out
  obtain ⟨g, off, A1, c1, B1, d1, rfl, hog, hr0, e0, e1, e2, e3, e4⟩ := hq.elem 0 (by simp)
  obtain ⟨g', off', A2, c2, B2, d2, hgg, hog', hr1, f0, f1, f2, f3, f4⟩ := hq.elem 1 (by simp)
  injection hgg with hgg
  injection hgg with hg1 hg2
  subst hg1 hg2
  simp only [List.getElem_cons_zero, List.getElem_cons_succ, Nat.zero_mul, Nat.one_mul, Nat.add_zero] at e1 f1
  have c1 := fun X Y Z => bcell (HB0.out X Y Z) e1
  have c2 := fun X Y Z => bcell (HB0.out X Y Z) f1
  have c3 := fun X Y Z => bcell (HB0.out X Y Z) Hp.out
  clear hq hr0 hr1 e0 e1 e2 e3 e4 f0 f1 f2 f3 f4
  go_region_with ((first | refine (HC.out _ (CQ.out _ _ _)).mono ?_ | refine (HC.out _ (CD.out _ _ _)).mono ?_); rintro e w1 ⟨rfl, rfl⟩)
  all_goals go_wp2
  all_goals refine bodyPost_ret (v := .tuple #[aggV 2 (X.num.tmod Y.num), .int .i64 0]) ?_ rfl ⟨rfl, ?_⟩
  all_goals first | (rw [results_cell_tmp rfl]; go_simp; done) | exact five_alloc _ _ _ _ _ _
set_option maxRecDepth 20000 in
set_option maxHeartbeats 1000000 in
theorem prim_ints_quo0 (X Y : V) (hX : X.kind = 2) (hY : Y.kind = 2) (hz : Y.num = 0) (x0 x1 x2 x3 x4 : Value) (A : Option Addr) (c p q : Nat) (ok : Nat → Prop) (w : World) (hls : RdVs ok w (.slice A 2 c) 0 [X, Y])
    (hp : w.cell? ⟨p, 0, none⟩ = some (clos 104 q)) (hq : w.cell? ⟨q, 0, none⟩ = some (.func (.func 52) #[] #[])) :
    Calls Tryz.prog 103 #[.agg #[x0, x1, x2, x3, x4], .slice A 2 c, .pointer (some ⟨p, 0, none⟩)] w (PlainPost w 0 (0) 1) := by
  have hb0 : ∀ X Y Z : Obj, Below w.heap.size w (((w.alloc X).alloc Y).alloc Z) := fun X Y Z => three_alloc _ _ _ _
  have hkk : (decide (X.kind = 2) && decide (Y.kind = 2)) = true := by simp [hX, hY]
  have HB0 := Lib.hid hb0
  have Hp := Lib.hid hp
  have Hq := Lib.hid hq
  have Hls := Lib.hid hls
  have Hkk := Lib.hid hkk
  have hcall := fun (W : World) h => prim_div_quo W X.num Y.num q h
  simp only [hz, if_pos] at hcall
  have Hz := Lib.hid hz
  have HC := Lib.hid hcall
  have CQ := Lib.hid (fun (X0 Y0 Z0 : Obj) => bcell (hb0 X0 Y0 Z0) hq)
  have CD := Lib.hid (fun (X0 Y0 Z0 : Obj) => bcell (hb0 X0 Y0 Z0).drew hq)
  clear hcall
  clear hb0 hp hq hz hls hkk hX hY
  go_enter Tryz.func103, Tryz.ntmps103
  go_wp2_with fail
  have hk := fun (U V W : Obj) h1 h2 => prim_kinds X Y 2 2 A c 2 (w.heap.size + 1 + 1) ok (((w.alloc U).alloc V).alloc W) (Hls.out.below (HB0.out U V W)) h1 h2
  refine (hk _ _ _ (World.cell?_alloc_at _ _ _ _ (by simp)) (World.cell?_alloc_at _ _ _ _ (by simp))).mono ?_
  clear hk
  rw [Hkk.out]
  rintro e w1 ⟨rfl, rfl⟩
  go_wp2_with fail
  have hq := Hls.out
  obtain ⟨g, off, A1, c1, B1, d1, rfl, hog, hr0, e0, e1, e2, e3, e4⟩ := hq.elem 0 (by simp)
  obtain ⟨g', off', A2, c2, B2, d2, hgg, hog', hr1, f0, f1, f2, f3, f4⟩ := hq.elem 1 (by simp)
  injection hgg with hgg
  injection hgg with hg1 hg2
  subst hg1 hg2
  simp only [List.getElem_cons_zero, List.getElem_cons_succ, Nat.zero_mul, Nat.one_mul, Nat.add_zero] at e1 f1
  have c1 := fun X Y Z => bcell (HB0.out X Y Z) e1
  have c2 := fun X Y Z => bcell (HB0.out X Y Z) f1
  have c3 := fun X Y Z => bcell (HB0.out X Y Z) Hp.out
  clear hq hr0 hr1 e0 e1 e2 e3 e4 f0 f1 f2 f3 f4
  rw [Hz.out] at c2
  go_region_with ((first | refine (HC.out _ (CQ.out _ _ _)).mono ?_ | refine (HC.out _ (CD.out _ _ _)).mono ?_); rintro e w1 ⟨rfl, rfl⟩)
  all_goals go_wp2
  all_goals refine bodyPost_ret (v := .tuple #[aggV 0 (0), .int .i64 1]) ?_ rfl ⟨rfl, ?_⟩
  all_goals first | (rw [results_cell_tmp rfl]; go_simp; done) | exact five_alloc _ _ _ _ _ _
set_option maxRecDepth 20000 in
set_option maxHeartbeats 1000000 in
theorem prim_ints_rem0 (X Y : V) (hX : X.kind = 2) (hY : Y.kind = 2) (hz : Y.num = 0) (x0 x1 x2 x3 x4 : Value) (A : Option Addr) (c p q : Nat) (ok : Nat → Prop) (w : World) (hls : RdVs ok w (.slice A 2 c) 0 [X, Y])
    (hp : w.cell? ⟨p, 0, none⟩ = some (clos 104 q)) (hq : w.cell? ⟨q, 0, none⟩ = some (.func (.func 53) #[] #[])) :
    Calls Tryz.prog 103 #[.agg #[x0, x1, x2, x3, x4], .slice A 2 c, .pointer (some ⟨p, 0, none⟩)] w (PlainPost w 0 (0) 1) := by
  have hb0 : ∀ X Y Z : Obj, Below w.heap.size w (((w.alloc X).alloc Y).alloc Z) := fun X Y Z => three_alloc _ _ _ _
  have hkk : (decide (X.kind = 2) && decide (Y.kind = 2)) = true := by simp [hX, hY]
  have HB0 := Lib.hid hb0
  have Hp := Lib.hid hp
  have Hq := Lib.hid hq
  have Hls := Lib.hid hls
  have Hkk := Lib.hid hkk
  have hcall := fun (W : World) h => prim_div_rem W X.num Y.num q h
  simp only [hz, if_pos] at hcall
  have Hz := Lib.hid hz
  have HC := Lib.hid hcall
  have CQ := Lib.hid (fun (X0 Y0 Z0 : Obj) => bcell (hb0 X0 Y0 Z0) hq)
  have CD := Lib.hid (fun (X0 Y0 Z0 : Obj) => bcell (hb0 X0 Y0 Z0).drew hq)
  clear hcall
  clear hb0 hp hq hz hls hkk hX hY
  go_enter Tryz.func103, Tryz.ntmps103
  go_wp2_with fail
  have hk := fun (U V W : Obj) h1 h2 => prim_kinds X Y 2 2 A c 2 (w.heap.size + 1 + 1) ok (((w.alloc U).alloc V).alloc W) (Hls.out.below (HB0.out U V W)) h1 h2
  refine (hk _ _ _ (World.cell?_alloc_at _ _ _ _ (by simp)) (World.cell?_alloc_at _ _ _ _ (by simp))).mono ?_
  clear hk
  rw [Hkk.out]
  rintro e w1 ⟨rfl, rfl⟩
  go_wp2_with fail
  have hq := Hls.out
  obtain ⟨g, off, A1, c1, B1, d1, rfl, hog, hr0, e0, e1, e2, e3, e4⟩ := hq.elem 0 (by simp)
  obtain ⟨g', off', A2, c2, B2, d2, hgg, hog', hr1, f0, f1, f2, f3, f4⟩ := hq.elem 1 (by simp)
  injection hgg with hgg
  injection hgg with hg1 hg2
  subst hg1 hg2
  simp only [List.getElem_cons_zero, List.getElem_cons_succ, Nat.zero_mul, Nat.one_mul, Nat.add_zero] at e1 f1
  have c1 := fun X Y Z => bcell (HB0.out X Y Z) e1
  have c2 := fun X Y Z => bcell (HB0.out X Y Z) f1
  have c3 := fun X Y Z => bcell (HB0.out X Y Z) Hp.out
  clear hq hr0 hr1 e0 e1 e2 e3 e4 f0 f1 f2 f3 f4
  rw [Hz.out] at c2
  go_region_with ((first | refine (HC.out _ (CQ.out _ _ _)).mono ?_ | refine (HC.out _ (CD.out _ _ _)).mono ?_); rintro e w1 ⟨rfl, rfl⟩)
  all_goals go_wp2
  all_goals refine bodyPost_ret (v := .tuple #[aggV 0 (0), .int .i64 1]) ?_ rfl ⟨rfl, ?_⟩
  all_goals first | (rw [results_cell_tmp rfl]; go_simp; done) | exact five_alloc _ _ _ _ _ _
end Go.Proofs.YtacaknkfddlklaaGreatDoor
namespace Go.Proofs.YtacaknkfddlklaaGreatDoor
open Go.RowKit Go.IntWalk

set_option maxRecDepth 20000 in
set_option maxHeartbeats 1000000 in
theorem prim_neg (X : V) (x0 x1 x2 x3 x4 : Value) (A : Option Addr) (c : Nat) (ok : Nat → Prop) (w : World) (hls : RdVs ok w (.slice A 1 c) 0 [X]) :
    Calls Tryz.prog 54 #[.agg #[x0, x1, x2, x3, x4], .slice A 1 c] w (PlainPost w (if X.kind = 2 then 2 else 0) (if X.kind = 2 then wrap64 (- X.num) else 0) (if X.kind = 2 then 0 else 3)) := by
  obtain ⟨g, off, A1, c1, B1, d1, rfl, hog, hr0, e0, e1, e2, e3, e4⟩ := hls.elem 0 (by simp)
  simp only [List.getElem_cons_zero, Nat.zero_mul, Nat.add_zero] at e0 e1
  have c1 := fun U V => bcell (two_alloc w U V) e0
  have c2 := fun U V => bcell (two_alloc w U V) e1
  clear hls hog hr0 e0 e1 e2 e3 e4
  by_cases hk : X.kind = 2
  · simp only [if_pos hk]
    have g0 : (X.kind != 2) = false := by simpa using hk
    clear hk
    go_enter Tryz.func54, Tryz.ntmps54
    go_wp2_with fail
    refine (prim_number _ _).mono ?_
    rintro e w1 ⟨rfl, rfl⟩
    go_wp2
    refine bodyPost_ret (v := .tuple #[aggV 2 (wrap64 (- X.num)), .int .i64 0]) ?_ rfl ⟨rfl, three_alloc _ _ _ _⟩
    rw [results_cell_tmp rfl]
    go_simp
  · simp only [if_neg hk]
    have g0 : (X.kind != 2) = true := by simpa using hk
    clear hk
    go_enter Tryz.func54, Tryz.ntmps54
    go_wp2_with fail
    refine (prim_trapped _ _).mono ?_
    rintro e w1 ⟨rfl, rfl⟩
    go_wp2
    refine bodyPost_ret (v := .tuple #[aggV 0 0, .int .i64 3]) ?_ rfl ⟨rfl, three_alloc _ _ _ _⟩
    rw [results_cell_tmp rfl]
    go_simp
set_option maxRecDepth 20000 in
set_option maxHeartbeats 1000000 in
theorem prim_not (X : V) (x0 x1 x2 x3 x4 : Value) (A : Option Addr) (c : Nat) (ok : Nat → Prop) (w : World) (hls : RdVs ok w (.slice A 1 c) 0 [X]) :
    Calls Tryz.prog 55 #[.agg #[x0, x1, x2, x3, x4], .slice A 1 c] w (PlainPost w (if X.kind = 1 then 1 else 0) (if X.kind = 1 then (if X.num = 0 then 1 else 0) else 0) (if X.kind = 1 then 0 else 3)) := by
  obtain ⟨g, off, A1, c1, B1, d1, rfl, hog, hr0, e0, e1, e2, e3, e4⟩ := hls.elem 0 (by simp)
  simp only [List.getElem_cons_zero, Nat.zero_mul, Nat.add_zero] at e0 e1
  have c1 := fun U V => bcell (two_alloc w U V) e0
  have c2 := fun U V => bcell (two_alloc w U V) e1
  clear hls hog hr0 e0 e1 e2 e3 e4
  by_cases hk : X.kind = 1
  · simp only [if_pos hk]
    have g0 : (X.kind != 1) = false := by simpa using hk
    clear hk
    by_cases hz : X.num = 0
    · simp only [if_pos hz]
      have z0 : (X.num == 0) = true := by simpa using hz
      clear hz
      go_enter Tryz.func55, Tryz.ntmps55
      go_wp2_with fail
      refine (prim_truth _ _).mono ?_
      rintro e w1 ⟨rfl, rfl⟩
      go_wp2
      refine bodyPost_ret (v := .tuple #[aggV 1 1, .int .i64 0]) ?_ rfl ⟨rfl, four_alloc _ _ _ _ _⟩
      rw [results_cell_tmp rfl]
      go_simp
    · simp only [if_neg hz]
      have z0 : (X.num == 0) = false := by simpa using hz
      clear hz
      go_enter Tryz.func55, Tryz.ntmps55
      go_wp2_with fail
      refine (prim_truth _ _).mono ?_
      rintro e w1 ⟨rfl, rfl⟩
      go_wp2
      refine bodyPost_ret (v := .tuple #[aggV 1 0, .int .i64 0]) ?_ rfl ⟨rfl, four_alloc _ _ _ _ _⟩
      rw [results_cell_tmp rfl]
      go_simp
  · simp only [if_neg hk]
    have g0 : (X.kind != 1) = true := by simpa using hk
    clear hk
    go_enter Tryz.func55, Tryz.ntmps55
    go_wp2_with fail
    refine (prim_trapped _ _).mono ?_
    rintro e w1 ⟨rfl, rfl⟩
    go_wp2
    refine bodyPost_ret (v := .tuple #[aggV 0 0, .int .i64 3]) ?_ rfl ⟨rfl, three_alloc _ _ _ _⟩
    rw [results_cell_tmp rfl]
    go_simp
end Go.Proofs.YtacaknkfddlklaaGreatDoor
namespace Go.Proofs.YtacaknkfddlklaaGreatDoor
open Go.RowKit Go.IntWalk

theorem five_allocs (w : World) (X Y Z U T : Obj) : Below w.heap.size w (((((w.alloc X).alloc Y).alloc Z).alloc U).drew.alloc T) :=
  ((((((Below.refl _ _).alloc (Nat.le_refl _) X).alloc (by simp) Y).alloc (by simp; omega) Z).alloc (by simp; omega) U).drew).alloc (by simp; omega) T
set_option maxRecDepth 20000 in
set_option maxHeartbeats 1000000 in
theorem prim_add_ints (X Y : V) (hX : X.kind = 2) (hY : Y.kind = 2) (x0 x1 x2 x3 x4 : Value) (A : Option Addr) (c : Nat) (ok : Nat → Prop) (w : World) (hls : RdVs ok w (.slice A 2 c) 0 [X, Y]) :
    Calls Tryz.prog 46 #[.agg #[x0, x1, x2, x3, x4], .slice A 2 c] w (PlainPost w 2 (wrap64 (X.num + Y.num)) 0) := by
  have hkk : (decide (X.kind = 2) && decide (Y.kind = 2)) = true := by simp [hX, hY]
  have Hls := Lib.hid hls
  have Hkk := Lib.hid hkk
  obtain ⟨g, off, A1, c1, B1, d1, rfl, hog, hr0, e0, e1, e2, e3, e4⟩ := hls.elem 0 (by simp)
  obtain ⟨g', off', A2, c2, B2, d2, hgg, hog', hr1, f0, f1, f2, f3, f4⟩ := hls.elem 1 (by simp)
  injection hgg with hgg
  injection hgg with hg1 hg2
  subst hg1 hg2
  simp only [List.getElem_cons_zero, List.getElem_cons_succ, Nat.zero_mul, Nat.one_mul, Nat.add_zero] at e0 e1 e2 e3 e4 f0 f1 f2 f3 f4
  have E0 := fun X Y Z U => bcell (four_alloc w X Y Z U) e0
  have E1 := fun X Y Z U => bcell (four_alloc w X Y Z U) e1
  have E2 := fun X Y Z U => bcell (four_alloc w X Y Z U) e2
  have E3 := fun X Y Z U => bcell (four_alloc w X Y Z U) e3
  have E4 := fun X Y Z U => bcell (four_alloc w X Y Z U) e4
  have F0 := fun X Y Z U => bcell (four_alloc w X Y Z U) f0
  have F1 := fun X Y Z U => bcell (four_alloc w X Y Z U) f1
  have F2 := fun X Y Z U => bcell (four_alloc w X Y Z U) f2
  have F3 := fun X Y Z U => bcell (four_alloc w X Y Z U) f3
  have F4 := fun X Y Z U => bcell (four_alloc w X Y Z U) f4
  have P0 := fun X Y Z => bcell (three_alloc w X Y Z) e0
  have P1 := fun X Y Z => bcell (three_alloc w X Y Z) e1
  have P2 := fun X Y Z => bcell (three_alloc w X Y Z) e2
  have P3 := fun X Y Z => bcell (three_alloc w X Y Z) e3
  have P4 := fun X Y Z => bcell (three_alloc w X Y Z) e4
  have Q0 := fun X Y Z => bcell (three_alloc w X Y Z) f0
  have Q1 := fun X Y Z => bcell (three_alloc w X Y Z) f1
  have Q2 := fun X Y Z => bcell (three_alloc w X Y Z) f2
  have Q3 := fun X Y Z => bcell (three_alloc w X Y Z) f3
  have Q4 := fun X Y Z => bcell (three_alloc w X Y Z) f4
  have D0 := fun X Y => bcell (two_alloc w X Y) e0
  have D1 := fun X Y => bcell (two_alloc w X Y) e1
  have D2 := fun X Y => bcell (two_alloc w X Y) e2
  have D3 := fun X Y => bcell (two_alloc w X Y) e3
  have D4 := fun X Y => bcell (two_alloc w X Y) e4
  have G0 := fun X Y => bcell (two_alloc w X Y) f0
  have G1 := fun X Y => bcell (two_alloc w X Y) f1
  have G2 := fun X Y => bcell (two_alloc w X Y) f2
  have G3 := fun X Y => bcell (two_alloc w X Y) f3
  have G4 := fun X Y => bcell (two_alloc w X Y) f4
  clear hX hY hls hkk hog hog' hr0 hr1 e0 e1 e2 e3 e4 f0 f1 f2 f3 f4
  go_enter Tryz.func46, Tryz.ntmps46
  go_wp2_with fail
  go_region
  all_goals go_wp2_with fail
  all_goals have hk := fun (W : World) (p : Nat) hb h1 h2 => prim_kinds X Y 2 2 (some ⟨g, off, none⟩) c 2 p ok W (Hls.out.below hb) h1 h2
  all_goals refine (hk _ _ (five_allocs _ _ _ _ _ _) (World.cell?_alloc_at _ _ _ _ (by simp)) (World.cell?_alloc_at _ _ _ _ (by simp))).mono ?_
  all_goals clear hk
  all_goals rw [Hkk.out]
  all_goals rintro e w1 ⟨rfl, rfl⟩
  all_goals go_wp2_with fail
  all_goals refine (prim_number _ _).mono ?_
  all_goals rintro e w1 ⟨rfl, rfl⟩
  all_goals go_wp2
  all_goals refine bodyPost_ret (v := .tuple #[aggV 2 (wrap64 (X.num + Y.num)), .int .i64 0]) ?_ rfl ⟨rfl, ?_⟩
  all_goals first | (rw [results_cell_tmp rfl]; go_simp; done) | exact (five_allocs _ _ _ _ _ _).alloc (by simp; omega) _
end Go.Proofs.YtacaknkfddlklaaGreatDoor
