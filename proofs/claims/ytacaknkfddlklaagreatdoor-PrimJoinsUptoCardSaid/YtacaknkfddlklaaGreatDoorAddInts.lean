/- Contract of prim.add at two numbers. -/
import Derived.Test.YtacaknkfddlklaaGreatDoorInts
set_option linter.unusedVariables false
set_option linter.unusedSimpArgs false
namespace Go.Proofs.YtacaknkfddlklaaGreatDoor
open Go.RowKit Go.IntWalk

theorem five_allocs (w : World) (X Y Z U T : Obj) : Below w.heap.size w (((((w.alloc X).alloc Y).alloc Z).alloc U).drew.alloc T) :=
  ((((((Below.refl _ _).alloc (Nat.le_refl _) X).alloc (by simp) Y).alloc (by simp; omega) Z).alloc (by simp; omega) U).drew).alloc (by simp; omega) T
set_option maxRecDepth 20000 in
set_option maxHeartbeats 1000000 in
theorem prim_add_ints (X Y : V) (hX : X.kind = 2) (hY : Y.kind = 2) (x0 x1 x2 x3 x4 : Value) (A : Option Addr) (c : Nat) (ok : Nat → Prop) (w : World) (hls : RdVs ok w (.slice A 2 c) 0 [X, Y]) :
    Calls Tryz.prog 46 #[.agg #[x0, x1, x2, x3, x4], .slice A 2 c] w (PlainPost w 2 (wrap64 (X.num + Y.num)) 0) := by
  have hkk : (decide (X.kind = 2) && decide (Y.kind = 2)) = true := by simp [hX, hY]
  have Hls := Lib.hid hls
  have Hkk := Lib.hid hkk
  obtain ⟨g, off, A1, c1, B1, d1, rfl, hog, hr0, e0, e1, e2, e3, e4⟩ := hls.elem 0 (by simp)
  obtain ⟨g', off', A2, c2, B2, d2, hgg, hog', hr1, f0, f1, f2, f3, f4⟩ := hls.elem 1 (by simp)
  injection hgg with hgg
  injection hgg with hg1 hg2
  subst hg1 hg2
  simp only [List.getElem_cons_zero, List.getElem_cons_succ, Nat.zero_mul, Nat.one_mul, Nat.add_zero] at e0 e1 e2 e3 e4 f0 f1 f2 f3 f4
  have E0 := fun X Y Z U => bcell (four_alloc w X Y Z U) e0
  have E1 := fun X Y Z U => bcell (four_alloc w X Y Z U) e1
  have E2 := fun X Y Z U => bcell (four_alloc w X Y Z U) e2
  have E3 := fun X Y Z U => bcell (four_alloc w X Y Z U) e3
  have E4 := fun X Y Z U => bcell (four_alloc w X Y Z U) e4
  have F0 := fun X Y Z U => bcell (four_alloc w X Y Z U) f0
  have F1 := fun X Y Z U => bcell (four_alloc w X Y Z U) f1
  have F2 := fun X Y Z U => bcell (four_alloc w X Y Z U) f2
  have F3 := fun X Y Z U => bcell (four_alloc w X Y Z U) f3
  have F4 := fun X Y Z U => bcell (four_alloc w X Y Z U) f4
  have P0 := fun X Y Z => bcell (three_alloc w X Y Z) e0
  have P1 := fun X Y Z => bcell (three_alloc w X Y Z) e1
  have P2 := fun X Y Z => bcell (three_alloc w X Y Z) e2
  have P3 := fun X Y Z => bcell (three_alloc w X Y Z) e3
  have P4 := fun X Y Z => bcell (three_alloc w X Y Z) e4
  have Q0 := fun X Y Z => bcell (three_alloc w X Y Z) f0
  have Q1 := fun X Y Z => bcell (three_alloc w X Y Z) f1
  have Q2 := fun X Y Z => bcell (three_alloc w X Y Z) f2
  have Q3 := fun X Y Z => bcell (three_alloc w X Y Z) f3
  have Q4 := fun X Y Z => bcell (three_alloc w X Y Z) f4
  have D0 := fun X Y => bcell (two_alloc w X Y) e0
  have D1 := fun X Y => bcell (two_alloc w X Y) e1
  have D2 := fun X Y => bcell (two_alloc w X Y) e2
  have D3 := fun X Y => bcell (two_alloc w X Y) e3
  have D4 := fun X Y => bcell (two_alloc w X Y) e4
  have G0 := fun X Y => bcell (two_alloc w X Y) f0
  have G1 := fun X Y => bcell (two_alloc w X Y) f1
  have G2 := fun X Y => bcell (two_alloc w X Y) f2
  have G3 := fun X Y => bcell (two_alloc w X Y) f3
  have G4 := fun X Y => bcell (two_alloc w X Y) f4
  clear hX hY hls hkk hog hog' hr0 hr1 e0 e1 e2 e3 e4 f0 f1 f2 f3 f4
  go_enter Tryz.func46, Tryz.ntmps46
  go_wp2_with fail
  go_region
  all_goals go_wp2_with fail
  all_goals have hk := fun (W : World) (p : Nat) hb h1 h2 => prim_kinds X Y 2 2 (some ⟨g, off, none⟩) c 2 p ok W (Hls.out.below hb) h1 h2
  all_goals refine (hk _ _ (five_allocs _ _ _ _ _ _) (World.cell?_alloc_at _ _ _ _ (by simp)) (World.cell?_alloc_at _ _ _ _ (by simp))).mono ?_
  all_goals clear hk
  all_goals rw [Hkk.out]
  all_goals rintro e w1 ⟨rfl, rfl⟩
  all_goals go_wp2_with fail
  all_goals refine (prim_number _ _).mono ?_
  all_goals rintro e w1 ⟨rfl, rfl⟩
  all_goals go_wp2
  all_goals refine bodyPost_ret (v := .tuple #[aggV 2 (wrap64 (X.num + Y.num)), .int .i64 0]) ?_ rfl ⟨rfl, ?_⟩
  all_goals first | (rw [results_cell_tmp rfl]; go_simp; done) | exact (five_allocs _ _ _ _ _ _).alloc (by simp; omega) _
end Go.Proofs.YtacaknkfddlklaaGreatDoor
