/- Contract of value.form: are the fields that a kind does not use zero? -/
import Derived.Test.YtacaknkfddlklaaGreatDoorValB
import Derived.BigQuiet
import Derived.WalkLawsBesides
set_option linter.unusedVariables false
set_option linter.unusedSimpArgs false
namespace Go.Proofs.YtacaknkfddlklaaGreatDoor
open Go.RowKit Go.IntWalk

theorem below_drewN (w : World) (n : Nat) : Below w.heap.size w (w.drewN n) := ⟨rfl, rfl, rfl, Nat.le_refl _, fun _ _ => rfl⟩
def formB (x : V) : Bool := plainS x.kind x.num x.str x.parts.length x.keys.length
set_option maxRecDepth 20000 in
set_option maxHeartbeats 400000 in
theorem value_form (kind n : Int) (s : List UInt8) (A B : Option Addr) (nl cl nk ck : Nat) (w : World) (h1 : nl ≤ 16777216) (h2 : nk ≤ 16777216) (h3 : nl ≤ cl) (h4 : nk ≤ ck) :
    Calls Tryz.prog 122 #[.agg #[.int .i64 kind, .int .i64 n, .string ⟨s.toArray⟩, .slice A nl cl, .slice B nk ck]] w fun e w' => e = .returned (.bool (plainS kind n s nl nk)) ∧ Below w.heap.size w w' := by
  have hsz : (⟨s.toArray⟩ : ByteArray).toList = s := by simp [ByteArray.toList_eq]
  have hb2 : ∀ (a b : Obj), Below w.heap.size w ((w.alloc a).alloc b) := fun a b => ((Below.refl _ _).alloc (Nat.le_refl _) a).alloc (size_alloc_le _ _) b
  by_cases k0 : kind = 0
  · subst k0
    go_enter Tryz.func122, Tryz.ntmps122
    go_wp2
    all_goals go_ret
    all_goals refine ⟨congrArg (fun b => Ending.returned (Value.bool b)) ?_, hb2 _ _⟩
    all_goals first | (rw [Bool.eq_iff_iff]; simp_all [plainS]; done) | (rw [Bool.eq_iff_iff]; simp_all [plainS]; omega)
  by_cases k1 : kind = 1
  · subst k1
    go_enter Tryz.func122, Tryz.ntmps122
    go_wp2
    all_goals go_ret
    all_goals refine ⟨congrArg (fun b => Ending.returned (Value.bool b)) ?_, hb2 _ _⟩
    all_goals first | (rw [Bool.eq_iff_iff]; simp_all [plainS]; done) | (rw [Bool.eq_iff_iff]; simp_all [plainS]; omega)
  by_cases k2 : kind = 2
  · subst k2
    go_enter Tryz.func122, Tryz.ntmps122
    go_wp2
    all_goals go_ret
    all_goals refine ⟨congrArg (fun b => Ending.returned (Value.bool b)) ?_, hb2 _ _⟩
    all_goals first | (rw [Bool.eq_iff_iff]; simp_all [plainS]; done) | (rw [Bool.eq_iff_iff]; simp_all [plainS]; omega)
  by_cases k3 : kind = 3
  · subst k3
    go_enter Tryz.func122, Tryz.ntmps122
    go_wp2
    all_goals go_ret
    all_goals refine ⟨congrArg (fun b => Ending.returned (Value.bool b)) ?_, hb2 _ _⟩
    all_goals first | (rw [Bool.eq_iff_iff]; simp_all [plainS]; done) | (rw [Bool.eq_iff_iff]; simp_all [plainS]; omega)
  by_cases k4 : kind = 4
  · subst k4
    go_enter Tryz.func122, Tryz.ntmps122
    go_wp2
    all_goals go_ret
    all_goals refine ⟨congrArg (fun b => Ending.returned (Value.bool b)) ?_, hb2 _ _⟩
    all_goals first | (rw [Bool.eq_iff_iff]; simp_all [plainS]; done) | (rw [Bool.eq_iff_iff]; simp_all [plainS]; omega)
  by_cases k5 : kind = 5
  · subst k5
    go_enter Tryz.func122, Tryz.ntmps122
    go_wp2
    all_goals go_ret
    all_goals refine ⟨congrArg (fun b => Ending.returned (Value.bool b)) ?_, hb2 _ _⟩
    all_goals first | (rw [Bool.eq_iff_iff]; simp_all [plainS]; done) | (rw [Bool.eq_iff_iff]; simp_all [plainS]; omega)
  have e1 : (kind == 1) = false := by simpa using k1
  have e2 : (kind == 2) = false := by simpa using k2
  have e3 : (kind == 3) = false := by simpa using k3
  have e4 : (kind == 4) = false := by simpa using k4
  have e5 : (kind == 5) = false := by simpa using k5
  have hno : plainS kind n s nl nk = false := by simp [plainS, k0, k1, k2, k3, k4, k5]
  have Hno := Lib.hid hno
  clear hno
  by_cases kn : 0 ≤ kind
  · have kp : ¬ kind ≤ 5 := by omega
    go_enter Tryz.func122, Tryz.ntmps122
    go_wp2
    all_goals go_ret
    all_goals exact ⟨by rw [Hno.out]; rfl, hb2 _ _⟩
  · go_enter Tryz.func122, Tryz.ntmps122
    go_wp2
    all_goals go_ret
    all_goals exact ⟨by rw [Hno.out]; rfl, hb2 _ _⟩
end Go.Proofs.YtacaknkfddlklaaGreatDoor
