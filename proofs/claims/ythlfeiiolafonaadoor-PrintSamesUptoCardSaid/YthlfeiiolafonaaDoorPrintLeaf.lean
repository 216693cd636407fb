/- Contracts of print's binds, binding, wrapped, expression, statement, is. -/
import Derived.Test.YthlfeiiolafonaaDoorPrintSpec
import Derived.Test.YthlfeiiolafonaaDoorLexLeaf
set_option linter.unusedVariables false
set_option linter.unusedSimpArgs false
namespace Go.Proofs.YthlfeiiolafonaaDoor
open Go.RowKit

theorem one_al (w : World) (X : Obj) : Below w.heap.size w (w.alloc X) := (Below.refl _ _).alloc (Nat.le_refl _) X
theorem two_al (w : World) (X Y : Obj) : Below w.heap.size w ((w.alloc X).alloc Y) := bthen (one_al w X) (one_al _ Y)
/-- what stands in a new node's box stays -/
theorem box10 {w w1 : World} {c0 c1 c2 c3 c4 c5 c6 c7 c8 c9 : Value} {t : TypeId} (h : Below (w.alloc (.cells #[c0, c1, c2, c3, c4, c5, c6, c7, c8, c9] t)).heap.size (w.alloc (.cells #[c0, c1, c2, c3, c4, c5, c6, c7, c8, c9] t)) w1) :
    w1.cell? ⟨w.heap.size, 0, none⟩ = some c0 ∧ w1.cell? ⟨w.heap.size, 1, none⟩ = some c1 ∧ w1.cell? ⟨w.heap.size, 2, none⟩ = some c2 ∧ w1.cell? ⟨w.heap.size, 3, none⟩ = some c3 ∧ w1.cell? ⟨w.heap.size, 4, none⟩ = some c4 ∧ w1.cell? ⟨w.heap.size, 5, none⟩ = some c5 ∧ w1.cell? ⟨w.heap.size, 6, none⟩ = some c6 ∧ w1.cell? ⟨w.heap.size, 7, none⟩ = some c7 ∧ w1.cell? ⟨w.heap.size, 8, none⟩ = some c8 ∧ w1.cell? ⟨w.heap.size, 9, none⟩ = some c9 :=
  ⟨bcell h (World.cell?_alloc_at _ _ _ _ rfl), bcell h (World.cell?_alloc_at _ _ _ _ rfl), bcell h (World.cell?_alloc_at _ _ _ _ rfl), bcell h (World.cell?_alloc_at _ _ _ _ rfl), bcell h (World.cell?_alloc_at _ _ _ _ rfl), bcell h (World.cell?_alloc_at _ _ _ _ rfl), bcell h (World.cell?_alloc_at _ _ _ _ rfl), bcell h (World.cell?_alloc_at _ _ _ _ rfl), bcell h (World.cell?_alloc_at _ _ _ _ rfl), bcell h (World.cell?_alloc_at _ _ _ _ rfl)⟩
theorem print_expression (k : Int) (w : World) : Calls Tryd.prog 19 #[.int .i64 k] w fun e w' => e = .returned (.bool (exprK k)) ∧ w' = w := by
  go_enter Tryd.func19, Tryd.ntmps19
  go_wp2
  all_goals go_ret
  all_goals (refine ⟨ret_bool ?_, rfl⟩; rw [Bool.eq_iff_iff]; simp [exprK]; omega)
theorem print_statementK (k : Int) (w : World) : Calls Tryd.prog 54 #[.int .i64 k] w fun e w' => e = .returned (.bool (stmtK k)) ∧ w' = w := by
  go_enter Tryd.func54, Tryd.ntmps54
  go_wp2
  all_goals go_ret
  all_goals (refine ⟨ret_bool ?_, rfl⟩; rw [Bool.eq_iff_iff]; simp [stmtK]; omega)
theorem print_is1 (k m : Int) (p : Nat) (w : World) (h : w.cell? ⟨p, 0, none⟩ = some (.int .i64 m)) : Calls Tryd.prog 70 #[.int .i64 k, .pointer (some ⟨p, 0, none⟩)] w fun e w' => e = .returned (.bool (k == m)) ∧ w' = w := by
  go_enter Tryd.func70, Tryd.ntmps70
  go_wp2
  all_goals go_ret
  all_goals exact ⟨rfl, rfl⟩
set_option maxHeartbeats 1000000 in
theorem print_binds (t : List UInt8) (w : World) : Calls Tryd.prog 50 #[.string ⟨t.toArray⟩] w fun e w' => e = .returned (.int .i64 (bindS t)) ∧ w' = w := by
  go_enter Tryd.func50, Tryd.ntmps50
  go_wp2
  all_goals go_ret
  all_goals (refine ⟨ret_int ?_, rfl⟩; unfold bindS; simp_all)
set_option maxHeartbeats 1000000 in
theorem print_binding (n : N) (v : Value) (ok : Nat → Prop) (w : World) (hv : RdN ok w v n) : Calls Tryd.prog 55 #[v] w fun e w' => e = .returned (.int .i64 (bindingS n)) ∧ Below w.heap.size w w' := by
  obtain ⟨A, c, B, d, K, e, rfl, hn⟩ := hv.form
  go_enter Tryd.func55, Tryd.ntmps55
  go_wp2_with (first | (go_at_call 50; refine (print_binds n.text _).mono ?_; rintro e w1 ⟨rfl, rfl⟩) | fail)
  all_goals go_wp2_with fail
  all_goals go_ret
  all_goals (refine ⟨ret_int ?_, one_al _ _⟩; unfold bindingS; simp_all)
set_option maxHeartbeats 2000000 in
theorem print_wrapped (n : N) (i : Nat) (hi : i < n.kids.length) (v : Value) (ok : Nat → Prop) (w : World) (hv : RdN ok w v n) : Calls Tryd.prog 37 #[v, .int .i64 (i : Int)] w fun e w' => e = .returned (.bool (wrapS n i n.kids[i])) ∧ Below w.heap.size w w' := by
  obtain ⟨A, c, B, d, K, e, rfl, hn⟩ := hv.form
  obtain ⟨g, off, A', c', B', d', K', e', rfl, _, hk, k0, k1, k2, k3, k4, k5, k6, k7, k8, k9⟩ := hn.kids.elem i hi
  have hi2 : (i : Int) < (n.kids.length : Int) := by omega
  have hi0 : (0 : Int) ≤ (i : Int) := by omega
  unfold wrapS
  generalize n.kids[i] = kid at *
  have HK := Lib.hid hk
  replace k0 := fun X => bcell (one_al w X) k0
  replace k1 := fun X => bcell (one_al w X) k1
  replace k2 := fun X => bcell (one_al w X) k2
  replace k3 := fun X => bcell (one_al w X) k3
  replace k4 := fun X => bcell (one_al w X) k4
  replace k5 := fun X => bcell (one_al w X) k5
  replace k6 := fun X => bcell (one_al w X) k6
  replace k7 := fun X => bcell (one_al w X) k7
  replace k8 := fun X => bcell (one_al w X) k8
  replace k9 := fun X => bcell (one_al w X) k9
  clear hn hk
  go_enter Tryd.func37, Tryd.ntmps37
  go_wp2_with fail
  refine (print_binding kid _ ok _ (HK.out.rd.below (one_al _ _))).mono ?_
  rintro e w1 ⟨rfl, hb⟩
  have HB := Lib.hid (bthen (one_al _ _) hb)
  obtain ⟨b0, b1, b2, b3, b4, b5, b6, b7, b8, b9⟩ := box10 hb
  clear hb k0 k1 k2 k3 k4 k5 k6 k7 k8 k9
  go_wp2_with (first | (go_at_call 50; refine (print_binds n.text _).mono ?_; rintro e w2 ⟨rfl, rfl⟩) | fail)
  all_goals go_wp2_with fail
  all_goals go_ret
  all_goals (refine ⟨ret_bool ?_, HB.out⟩; rw [Bool.eq_iff_iff]; unfold wrapK; simp_all <;> omega)
end Go.Proofs.YthlfeiiolafonaaDoor
