/- Contracts of the makers of prim.table's functions: ints, divide, order. -/
import Derived.Test.YtacaknkfddlklaaGreatDoorTabLaw
set_option linter.unusedVariables false
set_option linter.unusedSimpArgs false
namespace Go.Proofs.YtacaknkfddlklaaGreatDoor
open Go.RowKit Go.IntWalk

/-- a closure over the box bx -/
abbrev clos (f : Nat) (bx : Nat) : Value := .func (.func f) #[] #[.pointer (some ⟨bx, 0, none⟩)]
set_option maxRecDepth 20000 in
set_option maxHeartbeats 1000000 in
theorem prim_ints (w : World) (fn : Fn) (a b : Array Value) :
    Calls Tryz.prog 47 #[.func fn a b] w fun e w' => e = .returned (clos 103 w.heap.size) ∧ w' = w.alloc (.cells #[.func fn a b] 74) := by
  have hmf : ∀ (fn : Fn) (first cap : Array Value) (w : World), (Instr.makeFunc fn first cap).run Tryz.prog w = .ok (.func fn first cap) w := fun _ _ _ _ => rfl
  go_enter Tryz.func47, Tryz.ntmps47
  go_wp2
  go_ret
  exact ⟨rfl, rfl⟩
set_option maxRecDepth 20000 in
set_option maxHeartbeats 1000000 in
theorem prim_order (w : World) (fn : Fn) (a b : Array Value) :
    Calls Tryz.prog 60 #[.func fn a b] w fun e w' => e = .returned (clos 106 w.heap.size) ∧ w' = w.alloc (.cells #[.func fn a b] 36) := by
  have hmf : ∀ (fn : Fn) (first cap : Array Value) (w : World), (Instr.makeFunc fn first cap).run Tryz.prog w = .ok (.func fn first cap) w := fun _ _ _ _ => rfl
  go_enter Tryz.func60, Tryz.ntmps60
  go_wp2
  go_ret
  exact ⟨rfl, rfl⟩
set_option maxRecDepth 20000 in
set_option maxHeartbeats 1000000 in
theorem prim_divide (w : World) (fn : Fn) (a b : Array Value) :
    Calls Tryz.prog 51 #[.func fn a b] w fun e w' => e = .returned (clos 103 (w.heap.size + 1)) ∧ w' = (w.alloc (.cells #[.func fn a b] 76)).alloc (.cells #[clos 104 w.heap.size] 74) := by
  have hmf : ∀ (fn : Fn) (first cap : Array Value) (w : World), (Instr.makeFunc fn first cap).run Tryz.prog w = .ok (.func fn first cap) w := fun _ _ _ _ => rfl
  go_enter Tryz.func51, Tryz.ntmps51
  go_wp2_with fail
  refine (prim_ints _ _ _ _).mono ?_
  rintro e w1 ⟨rfl, rfl⟩
  go_wp2
  go_ret
  exact ⟨rfl, rfl⟩
end Go.Proofs.YtacaknkfddlklaaGreatDoor
