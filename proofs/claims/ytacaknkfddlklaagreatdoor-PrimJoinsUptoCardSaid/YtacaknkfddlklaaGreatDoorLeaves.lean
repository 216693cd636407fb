/- Contracts of prim's small functions. -/
import Derived.Test.YtacaknkfddlklaaGreatDoorTable
import Derived.Laws.ResultCell
set_option linter.unusedVariables false
set_option linter.unusedSimpArgs false
namespace Go.Proofs.YtacaknkfddlklaaGreatDoor
open Go.RowKit Go.IntWalk

abbrev aggV (k n : Int) : Value := .agg #[.int .i64 k, .int .i64 n, .string ⟨#[]⟩, .slice none 0 0, .slice none 0 0]
abbrev cellsV (k n : Int) : Obj := .cells #[.int .i64 k, .int .i64 n, .string ⟨#[]⟩, .slice none 0 0, .slice none 0 0] 25
/-- a plain answer: a value of kind k and number n, with the trap c -/
def PlainPost (w : World) (k n c : Int) (e : Ending) (w' : World) : Prop := e = .returned (.tuple #[aggV k n, .int .i64 c]) ∧ Below w.heap.size w w'
/-- the same, with the world that is left -/
def ExactPost (w : World) (k n c : Int) (e : Ending) (w' : World) : Prop := e = .returned (.tuple #[aggV k n, .int .i64 c]) ∧ w' = (w.alloc (cellsV k n)).alloc (cellsV k n)
theorem two_alloc (w : World) (X Y : Obj) : Below w.heap.size w ((w.alloc X).alloc Y) := ((Below.refl _ _).alloc (Nat.le_refl _) X).alloc (by simp) Y
set_option maxRecDepth 20000 in
set_option maxHeartbeats 1000000 in
theorem prim_number (w : World) (n : Int) :
    Calls Tryz.prog 49 #[.int .i64 n] w fun e w' => e = .returned (.tuple #[aggV 2 n, .int .i64 0]) ∧ w' = w.alloc (cellsV 2 n) := by
  go_enter Tryz.func49, Tryz.ntmps49
  go_wp2
  refine bodyPost_ret (v := .tuple #[aggV 2 n, .int .i64 0]) ?_ rfl ⟨rfl, rfl⟩
  rw [results_cell_tmp rfl]
  go_simp
set_option maxRecDepth 20000 in
set_option maxHeartbeats 1000000 in
theorem prim_trapped (w : World) (c : Int) :
    Calls Tryz.prog 29 #[.int .i64 c] w fun e w' => e = .returned (.tuple #[aggV 0 0, .int .i64 c]) ∧ w' = w.alloc (cellsV 0 0) := by
  go_enter Tryz.func29, Tryz.ntmps29
  go_wp2
  refine bodyPost_ret (v := .tuple #[aggV 0 0, .int .i64 c]) ?_ rfl ⟨rfl, rfl⟩
  rw [results_cell_tmp rfl]
  go_simp
set_option maxRecDepth 20000 in
set_option maxHeartbeats 1000000 in
theorem prim_sub (w : World) (a b : Int) : Calls Tryz.prog 48 #[.int .i64 a, .int .i64 b] w fun e w' => e = .returned (.tuple #[aggV 2 (wrap64 (a - b)), .int .i64 0]) ∧ w' = (w.alloc (cellsV 2 (wrap64 (a - b)))).alloc (cellsV 2 (wrap64 (a - b))) := by
  go_enter Tryz.func48, Tryz.ntmps48
  go_wp2_with fail
  refine (prim_number _ _).mono ?_
  rintro e w1 ⟨rfl, rfl⟩
  go_wp2
  refine bodyPost_ret (v := .tuple #[aggV 2 (wrap64 (a - b)), .int .i64 0]) ?_ rfl ⟨rfl, rfl⟩
  rw [results_cell_tmp rfl]
  go_simp
set_option maxRecDepth 20000 in
set_option maxHeartbeats 1000000 in
theorem prim_mul (w : World) (a b : Int) : Calls Tryz.prog 50 #[.int .i64 a, .int .i64 b] w fun e w' => e = .returned (.tuple #[aggV 2 (wrap64 (a * b)), .int .i64 0]) ∧ w' = (w.alloc (cellsV 2 (wrap64 (a * b)))).alloc (cellsV 2 (wrap64 (a * b))) := by
  go_enter Tryz.func50, Tryz.ntmps50
  go_wp2_with fail
  refine (prim_number _ _).mono ?_
  rintro e w1 ⟨rfl, rfl⟩
  go_wp2
  refine bodyPost_ret (v := .tuple #[aggV 2 (wrap64 (a * b)), .int .i64 0]) ?_ rfl ⟨rfl, rfl⟩
  rw [results_cell_tmp rfl]
  go_simp
set_option maxRecDepth 20000 in
set_option maxHeartbeats 1000000 in
theorem prim_quo (w : World) (a b : Int) (hb : b ≠ 0) : Calls Tryz.prog 52 #[.int .i64 a, .int .i64 b] w fun e w' => e = .returned (.int .i64 (wrap64 (a.tdiv b))) ∧ w' = w := by
  go_enter Tryz.func52, Tryz.ntmps52
  have g0 : (b == 0) = false := by simpa using hb
  go_wp2
  go_ret
  exact ⟨rfl, rfl⟩
set_option maxRecDepth 20000 in
set_option maxHeartbeats 1000000 in
theorem prim_rem (w : World) (a b : Int) (hb : b ≠ 0) : Calls Tryz.prog 53 #[.int .i64 a, .int .i64 b] w fun e w' => e = .returned (.int .i64 (a.tmod b)) ∧ w' = w := by
  go_enter Tryz.func53, Tryz.ntmps53
  have g0 : (b == 0) = false := by simpa using hb
  go_wp2
  go_ret
  exact ⟨rfl, rfl⟩
set_option maxRecDepth 20000 in
set_option maxHeartbeats 1000000 in
theorem prim_div_quo (w : World) (a b : Int) (p : Nat) (hc : w.cell? ⟨p, 0, none⟩ = some (.func (.func 52) #[] #[])) :
    Calls Tryz.prog 104 #[.int .i64 a, .int .i64 b, .pointer (some ⟨p, 0, none⟩)] w (ExactPost w (if b = 0 then 0 else 2) (if b = 0 then 0 else (wrap64 (a.tdiv b))) (if b = 0 then 1 else 0)) := by
  have hlt := World.block_lt_of_cell? w _ hc
  have hc1 : ∀ X : Obj, (w.alloc X).cell? ⟨p, 0, none⟩ = some (.func (.func 52) #[] #[]) := fun X => bcell ((Below.refl _ _).alloc (Nat.le_refl _) X) hc
  have Hlt := Lib.hid hlt
  clear hlt hc
  by_cases hb : b = 0
  · subst hb
    clear hc1
    go_enter Tryz.func104, Tryz.ntmps104
    go_wp2_with fail
    refine (prim_trapped _ _).mono ?_
    rintro e w1 ⟨rfl, rfl⟩
    go_wp2
    refine bodyPost_ret (v := .tuple #[aggV 0 0, .int .i64 1]) ?_ rfl ⟨rfl, rfl⟩
    rw [results_cell_tmp rfl]
    go_simp
  · have g0 : (b == 0) = false := by simpa using hb
    have Hb := Lib.hid hb
    simp only [if_neg hb]
    clear hb
    go_enter Tryz.func104, Tryz.ntmps104
    go_wp2_with fail
    refine (prim_quo _ _ _ Hb.out).mono ?_
    rintro e w1 ⟨rfl, rfl⟩
    go_wp2_with fail
    refine (prim_number _ _).mono ?_
    rintro e w1 ⟨rfl, rfl⟩
    go_wp2
    refine bodyPost_ret (v := .tuple #[aggV 2 (wrap64 (a.tdiv b)), .int .i64 0]) ?_ rfl ⟨rfl, rfl⟩
    rw [results_cell_tmp rfl]
    go_simp

set_option maxRecDepth 20000 in
set_option maxHeartbeats 1000000 in
theorem prim_div_rem (w : World) (a b : Int) (p : Nat) (hc : w.cell? ⟨p, 0, none⟩ = some (.func (.func 53) #[] #[])) :
    Calls Tryz.prog 104 #[.int .i64 a, .int .i64 b, .pointer (some ⟨p, 0, none⟩)] w (ExactPost w (if b = 0 then 0 else 2) (if b = 0 then 0 else (a.tmod b)) (if b = 0 then 1 else 0)) := by
  have hlt := World.block_lt_of_cell? w _ hc
  have hc1 : ∀ X : Obj, (w.alloc X).cell? ⟨p, 0, none⟩ = some (.func (.func 53) #[] #[]) := fun X => bcell ((Below.refl _ _).alloc (Nat.le_refl _) X) hc
  have Hlt := Lib.hid hlt
  clear hlt hc
  by_cases hb : b = 0
  · subst hb
    clear hc1
    go_enter Tryz.func104, Tryz.ntmps104
    go_wp2_with fail
    refine (prim_trapped _ _).mono ?_
    rintro e w1 ⟨rfl, rfl⟩
    go_wp2
    refine bodyPost_ret (v := .tuple #[aggV 0 0, .int .i64 1]) ?_ rfl ⟨rfl, rfl⟩
    rw [results_cell_tmp rfl]
    go_simp
  · have g0 : (b == 0) = false := by simpa using hb
    have Hb := Lib.hid hb
    simp only [if_neg hb]
    clear hb
    go_enter Tryz.func104, Tryz.ntmps104
    go_wp2_with fail
    refine (prim_rem _ _ _ Hb.out).mono ?_
    rintro e w1 ⟨rfl, rfl⟩
    go_wp2_with fail
    refine (prim_number _ _).mono ?_
    rintro e w1 ⟨rfl, rfl⟩
    go_wp2
    refine bodyPost_ret (v := .tuple #[aggV 2 (a.tmod b), .int .i64 0]) ?_ rfl ⟨rfl, rfl⟩
    rw [results_cell_tmp rfl]
    go_simp
set_option maxRecDepth 20000 in
set_option maxHeartbeats 1000000 in
theorem prim_truth (w : World) (t : Bool) :
    Calls Tryz.prog 56 #[.bool t] w (ExactPost w 1 (if t then 1 else 0) 0) := by
  cases t
  · go_enter Tryz.func56, Tryz.ntmps56
    go_wp2
    refine bodyPost_ret (v := .tuple #[aggV 1 0, .int .i64 0]) ?_ rfl ⟨rfl, rfl⟩
    rw [results_cell_tmp rfl]
    go_simp
  · go_enter Tryz.func56, Tryz.ntmps56
    go_wp2
    refine bodyPost_ret (v := .tuple #[aggV 1 1, .int .i64 0]) ?_ rfl ⟨rfl, rfl⟩
    rw [results_cell_tmp rfl]
    go_simp
end Go.Proofs.YtacaknkfddlklaaGreatDoor
