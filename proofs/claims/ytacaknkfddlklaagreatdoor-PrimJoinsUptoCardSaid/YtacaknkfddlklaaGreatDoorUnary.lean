/- Contracts of prim's neg, not and add (of numbers). -/
import Derived.Test.YtacaknkfddlklaaGreatDoorInts
set_option linter.unusedVariables false
set_option linter.unusedSimpArgs false
namespace Go.Proofs.YtacaknkfddlklaaGreatDoor
open Go.RowKit Go.IntWalk

set_option maxRecDepth 20000 in
set_option maxHeartbeats 1000000 in
theorem prim_neg (X : V) (x0 x1 x2 x3 x4 : Value) (A : Option Addr) (c : Nat) (ok : Nat → Prop) (w : World) (hls : RdVs ok w (.slice A 1 c) 0 [X]) :
    Calls Tryz.prog 54 #[.agg #[x0, x1, x2, x3, x4], .slice A 1 c] w (PlainPost w (if X.kind = 2 then 2 else 0) (if X.kind = 2 then wrap64 (- X.num) else 0) (if X.kind = 2 then 0 else 3)) := by
  obtain ⟨g, off, A1, c1, B1, d1, rfl, hog, hr0, e0, e1, e2, e3, e4⟩ := hls.elem 0 (by simp)
  simp only [List.getElem_cons_zero, Nat.zero_mul, Nat.add_zero] at e0 e1
  have c1 := fun U V => bcell (two_alloc w U V) e0
  have c2 := fun U V => bcell (two_alloc w U V) e1
  clear hls hog hr0 e0 e1 e2 e3 e4
  by_cases hk : X.kind = 2
  · simp only [if_pos hk]
    have g0 : (X.kind != 2) = false := by simpa using hk
    clear hk
    go_enter Tryz.func54, Tryz.ntmps54
    go_wp2_with fail
    refine (prim_number _ _).mono ?_
    rintro e w1 ⟨rfl, rfl⟩
    go_wp2
    refine bodyPost_ret (v := .tuple #[aggV 2 (wrap64 (- X.num)), .int .i64 0]) ?_ rfl ⟨rfl, three_alloc _ _ _ _⟩
    rw [results_cell_tmp rfl]
    go_simp
  · simp only [if_neg hk]
    have g0 : (X.kind != 2) = true := by simpa using hk
    clear hk
    go_enter Tryz.func54, Tryz.ntmps54
    go_wp2_with fail
    refine (prim_trapped _ _).mono ?_
    rintro e w1 ⟨rfl, rfl⟩
    go_wp2
    refine bodyPost_ret (v := .tuple #[aggV 0 0, .int .i64 3]) ?_ rfl ⟨rfl, three_alloc _ _ _ _⟩
    rw [results_cell_tmp rfl]
    go_simp
set_option maxRecDepth 20000 in
set_option maxHeartbeats 1000000 in
theorem prim_not (X : V) (x0 x1 x2 x3 x4 : Value) (A : Option Addr) (c : Nat) (ok : Nat → Prop) (w : World) (hls : RdVs ok w (.slice A 1 c) 0 [X]) :
    Calls Tryz.prog 55 #[.agg #[x0, x1, x2, x3, x4], .slice A 1 c] w (PlainPost w (if X.kind = 1 then 1 else 0) (if X.kind = 1 then (if X.num = 0 then 1 else 0) else 0) (if X.kind = 1 then 0 else 3)) := by
  obtain ⟨g, off, A1, c1, B1, d1, rfl, hog, hr0, e0, e1, e2, e3, e4⟩ := hls.elem 0 (by simp)
  simp only [List.getElem_cons_zero, Nat.zero_mul, Nat.add_zero] at e0 e1
  have c1 := fun U V => bcell (two_alloc w U V) e0
  have c2 := fun U V => bcell (two_alloc w U V) e1
  clear hls hog hr0 e0 e1 e2 e3 e4
  by_cases hk : X.kind = 1
  · simp only [if_pos hk]
    have g0 : (X.kind != 1) = false := by simpa using hk
    clear hk
    by_cases hz : X.num = 0
    · simp only [if_pos hz]
      have z0 : (X.num == 0) = true := by simpa using hz
      clear hz
      go_enter Tryz.func55, Tryz.ntmps55
      go_wp2_with fail
      refine (prim_truth _ _).mono ?_
      rintro e w1 ⟨rfl, rfl⟩
      go_wp2
      refine bodyPost_ret (v := .tuple #[aggV 1 1, .int .i64 0]) ?_ rfl ⟨rfl, four_alloc _ _ _ _ _⟩
      rw [results_cell_tmp rfl]
      go_simp
    · simp only [if_neg hz]
      have z0 : (X.num == 0) = false := by simpa using hz
      clear hz
      go_enter Tryz.func55, Tryz.ntmps55
      go_wp2_with fail
      refine (prim_truth _ _).mono ?_
      rintro e w1 ⟨rfl, rfl⟩
      go_wp2
      refine bodyPost_ret (v := .tuple #[aggV 1 0, .int .i64 0]) ?_ rfl ⟨rfl, four_alloc _ _ _ _ _⟩
      rw [results_cell_tmp rfl]
      go_simp
  · simp only [if_neg hk]
    have g0 : (X.kind != 1) = true := by simpa using hk
    clear hk
    go_enter Tryz.func55, Tryz.ntmps55
    go_wp2_with fail
    refine (prim_trapped _ _).mono ?_
    rintro e w1 ⟨rfl, rfl⟩
    go_wp2
    refine bodyPost_ret (v := .tuple #[aggV 0 0, .int .i64 3]) ?_ rfl ⟨rfl, three_alloc _ _ _ _⟩
    rw [results_cell_tmp rfl]
    go_simp
end Go.Proofs.YtacaknkfddlklaaGreatDoor
