/- Contract of the reference's plain: the same as value.form's. -/
import Derived.Test.YtacaknkfddlklaaGreatDoorForm
set_option linter.unusedVariables false
set_option linter.unusedSimpArgs false
namespace Go.Proofs.YtacaknkfddlklaaGreatDoor
open Go.RowKit Go.IntWalk

set_option maxRecDepth 20000 in
set_option maxHeartbeats 400000 in
theorem ref_plain (kind n : Int) (s : List UInt8) (A B : Option Addr) (nl cl nk ck : Nat) (w : World) (h1 : nl ≤ 16777216) (h2 : nk ≤ 16777216) (h3 : nl ≤ cl) (h4 : nk ≤ ck) :
    Calls Tryz.prog 101 #[.agg #[.int .i64 kind, .int .i64 n, .string ⟨s.toArray⟩, .slice A nl cl, .slice B nk ck]] w fun e w' => e = .returned (.bool (plainS kind n s nl nk)) ∧ Below w.heap.size w w' := by
  have hsz : (⟨s.toArray⟩ : ByteArray).toList = s := by simp [ByteArray.toList_eq]
  have hb2 : ∀ (a : Obj), Below w.heap.size w (w.alloc a) := fun a => (Below.refl _ _).alloc (Nat.le_refl _) a
  by_cases k0 : kind = 0
  · subst k0
    go_enter Tryz.func101, Tryz.ntmps101
    go_wp2
    all_goals go_ret
    all_goals refine ⟨congrArg (fun b => Ending.returned (Value.bool b)) ?_, hb2 _⟩
    all_goals first | (rw [Bool.eq_iff_iff]; simp_all [plainS]; done) | (rw [Bool.eq_iff_iff]; simp_all [plainS]; omega)
  by_cases k1 : kind = 1
  · subst k1
    go_enter Tryz.func101, Tryz.ntmps101
    go_wp2
    all_goals go_ret
    all_goals refine ⟨congrArg (fun b => Ending.returned (Value.bool b)) ?_, hb2 _⟩
    all_goals first | (rw [Bool.eq_iff_iff]; simp_all [plainS]; done) | (rw [Bool.eq_iff_iff]; simp_all [plainS]; omega)
  by_cases k2 : kind = 2
  · subst k2
    go_enter Tryz.func101, Tryz.ntmps101
    go_wp2
    all_goals go_ret
    all_goals refine ⟨congrArg (fun b => Ending.returned (Value.bool b)) ?_, hb2 _⟩
    all_goals first | (rw [Bool.eq_iff_iff]; simp_all [plainS]; done) | (rw [Bool.eq_iff_iff]; simp_all [plainS]; omega)
  by_cases k3 : kind = 3
  · subst k3
    go_enter Tryz.func101, Tryz.ntmps101
    go_wp2
    all_goals go_ret
    all_goals refine ⟨congrArg (fun b => Ending.returned (Value.bool b)) ?_, hb2 _⟩
    all_goals first | (rw [Bool.eq_iff_iff]; simp_all [plainS]; done) | (rw [Bool.eq_iff_iff]; simp_all [plainS]; omega)
  by_cases k4 : kind = 4
  · subst k4
    go_enter Tryz.func101, Tryz.ntmps101
    go_wp2
    all_goals go_ret
    all_goals refine ⟨congrArg (fun b => Ending.returned (Value.bool b)) ?_, hb2 _⟩
    all_goals first | (rw [Bool.eq_iff_iff]; simp_all [plainS]; done) | (rw [Bool.eq_iff_iff]; simp_all [plainS]; omega)
  by_cases k5 : kind = 5
  · subst k5
    go_enter Tryz.func101, Tryz.ntmps101
    go_wp2
    all_goals go_ret
    all_goals refine ⟨congrArg (fun b => Ending.returned (Value.bool b)) ?_, hb2 _⟩
    all_goals first | (rw [Bool.eq_iff_iff]; simp_all [plainS]; done) | (rw [Bool.eq_iff_iff]; simp_all [plainS]; omega)
  have e1 : (kind == 1) = false := by simpa using k1
  have e2 : (kind == 2) = false := by simpa using k2
  have e3 : (kind == 3) = false := by simpa using k3
  have e4 : (kind == 4) = false := by simpa using k4
  have e5 : (kind == 5) = false := by simpa using k5
  have hno : plainS kind n s nl nk = false := by simp [plainS, k0, k1, k2, k3, k4, k5]
  have Hno := Lib.hid hno
  clear hno
  by_cases kn : 0 ≤ kind
  · have kp : ¬ kind ≤ 5 := by omega
    go_enter Tryz.func101, Tryz.ntmps101
    go_wp2
    all_goals go_ret
    all_goals exact ⟨by rw [Hno.out]; rfl, hb2 _⟩
  · go_enter Tryz.func101, Tryz.ntmps101
    go_wp2
    all_goals go_ret
    all_goals exact ⟨by rw [Hno.out]; rfl, hb2 _⟩
end Go.Proofs.YtacaknkfddlklaaGreatDoor
