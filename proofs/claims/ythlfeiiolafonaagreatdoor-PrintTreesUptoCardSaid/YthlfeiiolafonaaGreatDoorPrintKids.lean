/- Contract of the reference's kids, kind by kind. Printed by gen_kids.py. -/
import Derived.Test.YthlfeiiolafonaaGreatDoorPrintRefLeaf
import Derived.Test.YthlfeiiolafonaaGreatDoorShapeB
set_option linter.unusedVariables false
set_option linter.unusedSimpArgs false
namespace Go.Proofs.YthlfeiiolafonaaGreatDoor
open Go.RowKit Go.IntWalk

/-- it returns some Boolean -/
def SomeB (e : Ending) : Prop := ∃ b, e = .returned (.bool b)

set_option maxRecDepth 20000 in
set_option maxHeartbeats 4000000 in
theorem kids_0 (t : List UInt8) (x0 x1 x2 x3 x4 f a : Value) (kk : Int) (hkk : kk < 1 ∨ 22 < kk) (l : List N) (K : Option Addr) (e : Nat) (ok : Nat → Prop) (w : World) (hl : RdNs ok w (.slice K l.length e) 0 l) (hlen : l.length ≤ 16777216) (hcap : l.length ≤ e) (hmost : e ≤ 9223372036854775807) :
    Calls Tryz.prog 51 #[.agg #[.int .i64 kk, .string ⟨t.toArray⟩, x0, x1, x2, x3, x4, f, .slice K l.length e, a]] w fun e1 w' => SomeB e1 ∧ Below w.heap.size w w' := by
  have hk1 : (kk == 1) = false := by rw [beq_eq_false_iff_ne]; omega
  have hk2 : (kk == 2) = false := by rw [beq_eq_false_iff_ne]; omega
  have hk3 : (kk == 3) = false := by rw [beq_eq_false_iff_ne]; omega
  have hk4 : (kk == 4) = false := by rw [beq_eq_false_iff_ne]; omega
  have hk5 : (kk == 5) = false := by rw [beq_eq_false_iff_ne]; omega
  have hk6 : (kk == 6) = false := by rw [beq_eq_false_iff_ne]; omega
  have hk7 : (kk == 7) = false := by rw [beq_eq_false_iff_ne]; omega
  have hk8 : (kk == 8) = false := by rw [beq_eq_false_iff_ne]; omega
  have hk9 : (kk == 9) = false := by rw [beq_eq_false_iff_ne]; omega
  have hk10 : (kk == 10) = false := by rw [beq_eq_false_iff_ne]; omega
  have hk11 : (kk == 11) = false := by rw [beq_eq_false_iff_ne]; omega
  have hk12 : (kk == 12) = false := by rw [beq_eq_false_iff_ne]; omega
  have hk13 : (kk == 13) = false := by rw [beq_eq_false_iff_ne]; omega
  have hk14 : (kk == 14) = false := by rw [beq_eq_false_iff_ne]; omega
  have hk15 : (kk == 15) = false := by rw [beq_eq_false_iff_ne]; omega
  have hk16 : (kk == 16) = false := by rw [beq_eq_false_iff_ne]; omega
  have hk17 : (kk == 17) = false := by rw [beq_eq_false_iff_ne]; omega
  have hk18 : (kk == 18) = false := by rw [beq_eq_false_iff_ne]; omega
  have hk19 : (kk == 19) = false := by rw [beq_eq_false_iff_ne]; omega
  have hk20 : (kk == 20) = false := by rw [beq_eq_false_iff_ne]; omega
  have hk21 : (kk == 21) = false := by rw [beq_eq_false_iff_ne]; omega
  have hk22 : (kk == 22) = false := by rw [beq_eq_false_iff_ne]; omega
  clear hkk
  have HL := Lib.hid hl
  clear hl
  go_enter Tryz.func51, Tryz.ntmps51
  go_wp2_with fail
  go_loopw [4, 5] (fun x i wr => ∃ k : Nat, k ≤ l.length ∧ i = .int .i64 (k : Int) ∧ x = .bool ((l.take k).all (fun n => exprK n.kind)) ∧ wr = w.alloc (.cells #[.int .i64 kk, .string ⟨t.toArray⟩, x0, x1, x2, x3, x4, f, .slice K l.length e, a] 28)) (fun _ i _ => l.length - (intOf i).toNat)
  case atStart => exact ⟨0, Nat.zero_le _, rfl, rfl, rfl⟩
  case round =>
    obtain ⟨k, hk, rfl, rfl, rfl⟩ := hrel
    by_cases hlt : k < l.length
    · have hlA : (k : Int) < (l.length : Int) := by omega
      have h00 : (0 : Int) ≤ (k : Int) := by omega
      have hst := Lib.hid (all_take_step (l := l) (k := k) hlt (fun n => exprK n.kind))
      obtain ⟨g, off, A', c', B', d', K', e', rfl, _, hk', k0, _⟩ := HL.out.elem k hlt
      have k1 := fun X => bcell (one_al w X) k0
      clear hk' k0
      generalize l[k] = Y at *
      cases hq : (l.take k).all (fun n => exprK n.kind)
      all_goals
        have HQ := Lib.hid hq
        clear hq
        go_wp2_with fail
        refine (rf_IsExpr Y.kind _).mono ?_
        rintro e1 w1 ⟨rfl, rfl⟩
        go_wp2_with fail
        exact ⟨⟨k + 1, by omega, by go_num, by rw [hst.out, HQ.out]; rfl, by trivial⟩, by simp [intOf]; omega⟩
    · have hlA : ¬ (k : Int) < (l.length : Int) := by omega
      have hkk : l.take k = l := List.take_of_length_le (by omega)
      rw [hkk]
      clear hkk
      go_wp2_with fail
      go_ret
      exact ⟨(show ∃ b, _ = Ending.returned (Value.bool b) from ⟨_, rfl⟩), one_al _ _⟩
set_option maxRecDepth 20000 in
set_option maxHeartbeats 4000000 in
theorem kids_1 (t : List UInt8) (x0 x1 x2 x3 x4 f a : Value) (l : List N) (K : Option Addr) (e : Nat) (ok : Nat → Prop) (w : World) (hl : RdNs ok w (.slice K l.length e) 0 l) (hlen : l.length ≤ 16777216) (hcap : l.length ≤ e) (hmost : e ≤ 9223372036854775807) :
    Calls Tryz.prog 51 #[.agg #[.int .i64 1, .string ⟨t.toArray⟩, x0, x1, x2, x3, x4, f, .slice K l.length e, a]] w fun e1 w' => e1 = .returned (.bool (shapeK 1 (l.map N.kind))) ∧ Below w.heap.size w w' := by
  have HL := Lib.hid hl
  clear hl
  go_enter Tryz.func51, Tryz.ntmps51
  go_wp2_with fail
  go_loopw [4, 5] (fun x i wr => ∃ k : Nat, k ≤ l.length ∧ i = .int .i64 (k : Int) ∧ x = .bool ((l.take k).all (fun n => exprK n.kind)) ∧ wr = w.alloc (.cells #[.int .i64 1, .string ⟨t.toArray⟩, x0, x1, x2, x3, x4, f, .slice K l.length e, a] 28)) (fun _ i _ => l.length - (intOf i).toNat)
  case atStart => exact ⟨0, Nat.zero_le _, rfl, rfl, rfl⟩
  case round =>
    obtain ⟨k, hk, rfl, rfl, rfl⟩ := hrel
    by_cases hlt : k < l.length
    · have hlA : (k : Int) < (l.length : Int) := by omega
      have h00 : (0 : Int) ≤ (k : Int) := by omega
      have hst := Lib.hid (all_take_step (l := l) (k := k) hlt (fun n => exprK n.kind))
      obtain ⟨g, off, A', c', B', d', K', e', rfl, _, hk', k0, _⟩ := HL.out.elem k hlt
      have k1 := fun X => bcell (one_al w X) k0
      clear hk' k0
      generalize l[k] = Y at *
      cases hq : (l.take k).all (fun n => exprK n.kind)
      all_goals
        have HQ := Lib.hid hq
        clear hq
        go_wp2_with fail
        refine (rf_IsExpr Y.kind _).mono ?_
        rintro e1 w1 ⟨rfl, rfl⟩
        go_wp2_with fail
        exact ⟨⟨k + 1, by omega, by go_num, by rw [hst.out, HQ.out]; rfl, by trivial⟩, by simp [intOf]; omega⟩
    · have hlA : ¬ (k : Int) < (l.length : Int) := by omega
      have hkk : l.take k = l := List.take_of_length_le (by omega)
      rw [hkk]
      clear hkk
      go_wp2_with fail
      refine (rf_all l 2 K e ok _ (HL.out.below (one_al _ _)) hlen).mono ?_
      rintro e1 w1 ⟨rfl, rfl⟩
      go_wp2_with fail
      go_ret
      exact ⟨ret_bool (by simp [shapeK, Function.comp_def]), one_al _ _⟩
set_option maxRecDepth 20000 in
set_option maxHeartbeats 4000000 in
theorem kids_2_no (t : List UInt8) (x0 x1 x2 x3 x4 f a : Value) (l : List N) (K : Option Addr) (e : Nat) (ok : Nat → Prop) (w : World) (hl : RdNs ok w (.slice K l.length e) 0 l) (hlen : l.length ≤ 16777216) (hcap : l.length ≤ e) (hmost : e ≤ 9223372036854775807) (h0 : l.length = 0) :
    Calls Tryz.prog 51 #[.agg #[.int .i64 2, .string ⟨t.toArray⟩, x0, x1, x2, x3, x4, f, .slice K l.length e, a]] w fun e1 w' => e1 = .returned (.bool (shapeK 2 (l.map N.kind))) ∧ Below w.heap.size w w' := by
  obtain rfl : l = [] := List.length_eq_zero_iff.1 h0
  have hs : shapeK 2 (([] : List N).map N.kind) = false := by simp [shapeK]
  rw [hs]
  clear h0 hs
  have HL := Lib.hid hl
  clear hl
  go_enter Tryz.func51, Tryz.ntmps51
  go_wp2_with fail
  go_loopw [4, 5] (fun x i wr => ∃ k : Nat, k ≤ 0 ∧ i = .int .i64 (k : Int) ∧ x = .bool ((([] : List N).take k).all (fun n => exprK n.kind)) ∧ wr = w.alloc (.cells #[.int .i64 2, .string ⟨t.toArray⟩, x0, x1, x2, x3, x4, f, .slice K 0 e, a] 28)) (fun _ i _ => 0 - (intOf i).toNat)
  case atStart => exact ⟨0, Nat.zero_le _, rfl, rfl, rfl⟩
  case round =>
    obtain ⟨k, hk, rfl, rfl, rfl⟩ := hrel
    by_cases hlt : k < 0
    · exact absurd hlt (Nat.not_lt_zero k)
    · have hlA : ¬ (k : Int) < (0 : Int) := by omega
      have hkk : ([] : List N).take k = ([] : List N) := List.take_of_length_le (by simp)
      rw [hkk]
      clear hkk
      go_wp2_with fail
      go_ret
      exact ⟨rfl, one_al _ _⟩
set_option maxRecDepth 20000 in
set_option maxHeartbeats 4000000 in
theorem kids_2_cons (t : List UInt8) (x0 x1 x2 x3 x4 f a : Value) (l : List N) (n : Nat) (hn : l.length = n + 1) (z : N) (hz : l[n]'(by omega) = z) (K : Option Addr) (e : Nat) (ok : Nat → Prop) (w : World) (hl : RdNs ok w (.slice K (n + 1) e) 0 l) (hlen : n ≤ 16777215) (hcap : n + 1 ≤ e) (hmost : e ≤ 9223372036854775807) :
    Calls Tryz.prog 51 #[.agg #[.int .i64 2, .string ⟨t.toArray⟩, x0, x1, x2, x3, x4, f, .slice K (n + 1) e, a]] w fun e1 w' => e1 = .returned (.bool (z.kind == 4 && ((l.take n).map N.kind).all (· == 3))) ∧ Below w.heap.size w w' := by
  have htl : (l.take n).length = n := by rw [List.length_take]; omega
  have hl2 : RdNs ok w (.slice K (l.take n).length e) 0 (l.take n) := (hl.take n).reslice
  have HE := Lib.hid (fun (W : World) (h : Below w.heap.size w W) => rf_all (l.take n) 3 K e ok W (hl2.below h) (by omega))
  rw [htl] at HE
  have HZ := Lib.hid hz
  have Hn := Lib.hid hn
  clear hl2 htl hz
  have HL := Lib.hid hl
  clear hl
  go_enter Tryz.func51, Tryz.ntmps51
  go_wp2_with fail
  go_loopw [4, 5] (fun x i wr => ∃ k : Nat, k ≤ (n + 1) ∧ i = .int .i64 (k : Int) ∧ x = .bool ((l.take k).all (fun n => exprK n.kind)) ∧ wr = w.alloc (.cells #[.int .i64 2, .string ⟨t.toArray⟩, x0, x1, x2, x3, x4, f, .slice K (n + 1) e, a] 28)) (fun _ i _ => (n + 1) - (intOf i).toNat)
  case atStart => exact ⟨0, Nat.zero_le _, rfl, rfl, rfl⟩
  case round =>
    obtain ⟨k, hk, rfl, rfl, rfl⟩ := hrel
    by_cases hlt : k < (n + 1)
    · have hlA : (k : Int) < ((n : Int) + 1) := by omega
      have h00 : (0 : Int) ≤ (k : Int) := by omega
      have hst := Lib.hid (all_take_step (l := l) (k := k) (by omega) (fun n => exprK n.kind))
      obtain ⟨g, off, A', c', B', d', K', e', rfl, _, hk', k0, _⟩ := HL.out.elem k (by omega)
      have k1 := fun X => bcell (one_al w X) k0
      clear hk' k0
      generalize l[k]'((by omega)) = Y at *
      cases hq : (l.take k).all (fun n => exprK n.kind)
      all_goals
        have HQ := Lib.hid hq
        clear hq
        go_wp2_with fail
        refine (rf_IsExpr Y.kind _).mono ?_
        rintro e1 w1 ⟨rfl, rfl⟩
        go_wp2_with fail
        exact ⟨⟨k + 1, by omega, by go_num, by rw [hst.out, HQ.out]; rfl, by trivial⟩, by simp [intOf]; omega⟩
    · have hlA : ¬ (k : Int) < ((n : Int) + 1) := by omega
      have hkk : l.take k = l := List.take_of_length_le (by omega)
      rw [hkk]
      clear hkk
      obtain ⟨g, off, A', c', B', d', K', e', rfl, _, hk', k0, _⟩ := HL.out.elem n (by have := Hn.out; omega)
      have k1 := fun X => bcell (one_al w X) k0
      rw [HZ.out] at k1
      have hn0 : (0 : Int) ≤ (n : Int) := by omega
      have hn1 : (n : Int) ≤ 16777215 := by omega
      have hn2 : (n : Int) < (e : Int) := by omega
      have hn3 : (e : Int) ≤ 9223372036854775807 := by omega
      clear hk' k0 hlt hk
      cases hkz : (z.kind == 4) with
      | false =>
        go_wp2_with fail
        go_ret
        exact ⟨ret_bool (by simp [hkz]), one_al _ _⟩
      | true =>
        go_wp2_with fail
        refine (HE.out _ (one_al _ _)).mono ?_
        rintro e1 w1 ⟨rfl, rfl⟩
        go_wp2_with fail
        go_ret
        exact ⟨ret_bool (by simp [hkz, List.all_map, Function.comp_def, ← List.map_take]), one_al _ _⟩
theorem kids_2 (t : List UInt8) (x0 x1 x2 x3 x4 f a : Value) (l : List N) (K : Option Addr) (e : Nat) (ok : Nat → Prop) (w : World) (hl : RdNs ok w (.slice K l.length e) 0 l) (hlen : l.length ≤ 16777216) (hcap : l.length ≤ e) (hmost : e ≤ 9223372036854775807) :
    Calls Tryz.prog 51 #[.agg #[.int .i64 2, .string ⟨t.toArray⟩, x0, x1, x2, x3, x4, f, .slice K l.length e, a]] w fun e1 w' => e1 = .returned (.bool (shapeK 2 (l.map N.kind))) ∧ Below w.heap.size w w' := by
  cases hl0 : l.length with
  | zero =>
    have := kids_2_no t x0 x1 x2 x3 x4 f a l K e ok w hl hlen hcap hmost hl0
    rwa [hl0] at this
  | succ n =>
    rw [hl0] at hl hlen hcap
    rw [shapeK_fn hl0 rfl]
    exact kids_2_cons t x0 x1 x2 x3 x4 f a l n hl0 _ rfl K e ok w hl (by omega) hcap hmost
set_option maxRecDepth 20000 in
set_option maxHeartbeats 4000000 in
theorem kids_3 (t : List UInt8) (x0 x1 x2 x3 x4 f a : Value) (l : List N) (K : Option Addr) (e : Nat) (ok : Nat → Prop) (w : World) (hl : RdNs ok w (.slice K l.length e) 0 l) (hlen : l.length ≤ 16777216) (hcap : l.length ≤ e) (hmost : e ≤ 9223372036854775807) :
    Calls Tryz.prog 51 #[.agg #[.int .i64 3, .string ⟨t.toArray⟩, x0, x1, x2, x3, x4, f, .slice K l.length e, a]] w fun e1 w' => e1 = .returned (.bool (shapeK 3 (l.map N.kind))) ∧ Below w.heap.size w w' := by
  have HL := Lib.hid hl
  clear hl
  go_enter Tryz.func51, Tryz.ntmps51
  go_wp2_with fail
  go_loopw [4, 5] (fun x i wr => ∃ k : Nat, k ≤ l.length ∧ i = .int .i64 (k : Int) ∧ x = .bool ((l.take k).all (fun n => exprK n.kind)) ∧ wr = w.alloc (.cells #[.int .i64 3, .string ⟨t.toArray⟩, x0, x1, x2, x3, x4, f, .slice K l.length e, a] 28)) (fun _ i _ => l.length - (intOf i).toNat)
  case atStart => exact ⟨0, Nat.zero_le _, rfl, rfl, rfl⟩
  case round =>
    obtain ⟨k, hk, rfl, rfl, rfl⟩ := hrel
    by_cases hlt : k < l.length
    · have hlA : (k : Int) < (l.length : Int) := by omega
      have h00 : (0 : Int) ≤ (k : Int) := by omega
      have hst := Lib.hid (all_take_step (l := l) (k := k) hlt (fun n => exprK n.kind))
      obtain ⟨g, off, A', c', B', d', K', e', rfl, _, hk', k0, _⟩ := HL.out.elem k hlt
      have k1 := fun X => bcell (one_al w X) k0
      clear hk' k0
      generalize l[k] = Y at *
      cases hq : (l.take k).all (fun n => exprK n.kind)
      all_goals
        have HQ := Lib.hid hq
        clear hq
        go_wp2_with fail
        refine (rf_IsExpr Y.kind _).mono ?_
        rintro e1 w1 ⟨rfl, rfl⟩
        go_wp2_with fail
        exact ⟨⟨k + 1, by omega, by go_num, by rw [hst.out, HQ.out]; rfl, by trivial⟩, by simp [intOf]; omega⟩
    · have hlA : ¬ (k : Int) < (l.length : Int) := by omega
      have hkk : l.take k = l := List.take_of_length_le (by omega)
      rw [hkk]
      clear hkk
      go_wp2_with fail
      go_ret
      exact ⟨ret_bool (by rw [Bool.eq_iff_iff]; simp [shapeK, ← List.length_eq_zero_iff]), one_al _ _⟩
set_option maxRecDepth 20000 in
set_option maxHeartbeats 4000000 in
theorem kids_4 (t : List UInt8) (x0 x1 x2 x3 x4 f a : Value) (l : List N) (K : Option Addr) (e : Nat) (ok : Nat → Prop) (w : World) (hl : RdNs ok w (.slice K l.length e) 0 l) (hlen : l.length ≤ 16777216) (hcap : l.length ≤ e) (hmost : e ≤ 9223372036854775807) :
    Calls Tryz.prog 51 #[.agg #[.int .i64 4, .string ⟨t.toArray⟩, x0, x1, x2, x3, x4, f, .slice K l.length e, a]] w fun e1 w' => e1 = .returned (.bool (shapeK 4 (l.map N.kind))) ∧ Below w.heap.size w w' := by
  have HL := Lib.hid hl
  clear hl
  go_enter Tryz.func51, Tryz.ntmps51
  go_wp2_with fail
  go_loopw [4, 5] (fun x i wr => ∃ k : Nat, k ≤ l.length ∧ i = .int .i64 (k : Int) ∧ x = .bool ((l.take k).all (fun n => exprK n.kind)) ∧ wr = w.alloc (.cells #[.int .i64 4, .string ⟨t.toArray⟩, x0, x1, x2, x3, x4, f, .slice K l.length e, a] 28)) (fun _ i _ => l.length - (intOf i).toNat)
  case atStart => exact ⟨0, Nat.zero_le _, rfl, rfl, rfl⟩
  case round =>
    obtain ⟨k, hk, rfl, rfl, rfl⟩ := hrel
    by_cases hlt : k < l.length
    · have hlA : (k : Int) < (l.length : Int) := by omega
      have h00 : (0 : Int) ≤ (k : Int) := by omega
      have hst := Lib.hid (all_take_step (l := l) (k := k) hlt (fun n => exprK n.kind))
      obtain ⟨g, off, A', c', B', d', K', e', rfl, _, hk', k0, _⟩ := HL.out.elem k hlt
      have k1 := fun X => bcell (one_al w X) k0
      clear hk' k0
      generalize l[k] = Y at *
      cases hq : (l.take k).all (fun n => exprK n.kind)
      all_goals
        have HQ := Lib.hid hq
        clear hq
        go_wp2_with fail
        refine (rf_IsExpr Y.kind _).mono ?_
        rintro e1 w1 ⟨rfl, rfl⟩
        go_wp2_with fail
        exact ⟨⟨k + 1, by omega, by go_num, by rw [hst.out, HQ.out]; rfl, by trivial⟩, by simp [intOf]; omega⟩
    · have hlA : ¬ (k : Int) < (l.length : Int) := by omega
      have hkk : l.take k = l := List.take_of_length_le (by omega)
      rw [hkk]
      clear hkk
      go_wp2_with fail
      go_loopw [7] (fun i wr => ∃ k : Nat, k ≤ l.length ∧ i = .int .i64 (k : Int) ∧ (l.take k).all (fun n => stmtK n.kind) = true ∧ wr = w.alloc (.cells #[.int .i64 4, .string ⟨t.toArray⟩, x0, x1, x2, x3, x4, f, .slice K l.length e, a] 28)) (fun i _ => l.length - (intOf i).toNat)
      case atStart => exact ⟨0, Nat.zero_le _, rfl, rfl, rfl⟩
      case round =>
        obtain ⟨k, hk, rfl, hno, rfl⟩ := hrel
        have HNo := Lib.hid hno
        clear hno hlA
        by_cases hlt : k < l.length
        · have hlA : (k : Int) < (l.length : Int) := by omega
          have h00 : (0 : Int) ≤ (k : Int) := by omega
          have HST := Lib.hid (all_take_step hlt (fun n => stmtK n.kind))
          have HAT := Lib.hid (fun h => all_at (p := fun n => stmtK n.kind) hlt h)
          obtain ⟨g, off, A', c', B', d', K', e', rfl, _, hk', k0, _⟩ := HL.out.elem k hlt
          have k1 := fun X => bcell (one_al w X) k0
          clear hk' k0
          generalize l[k] = Y at *
          go_wp2_with fail
          refine (rf_isStatement Y.kind _).mono ?_
          rintro e1 w1 ⟨rfl, rfl⟩
          cases hy : stmtK Y.kind with
          | false =>
            have HY := Lib.hid hy
            clear hy
            go_wp2_with fail
            go_ret
            exact ⟨ret_bool (by have := HAT.out HY.out; simpa [shapeK, Function.comp_def] using this), one_al _ _⟩
          | true =>
            have HY := Lib.hid hy
            clear hy
            go_wp2_with fail
            exact ⟨⟨k + 1, by omega, by go_num, by rw [HST.out, HNo.out, HY.out]; rfl, by trivial⟩, by simp [intOf]; omega⟩
        · have hlA : ¬ (k : Int) < (l.length : Int) := by omega
          have hkk : l.take k = l := List.take_of_length_le (by omega)
          rw [hkk] at HNo
          clear hkk
          go_wp2_with fail
          go_ret
          exact ⟨ret_bool (by have := HNo.out; simpa [shapeK, Function.comp_def] using this), one_al _ _⟩
set_option maxRecDepth 20000 in
set_option maxHeartbeats 4000000 in
theorem kids_5 (t : List UInt8) (x0 x1 x2 x3 x4 f a : Value) (l : List N) (K : Option Addr) (e : Nat) (ok : Nat → Prop) (w : World) (hl : RdNs ok w (.slice K l.length e) 0 l) (hlen : l.length ≤ 16777216) (hcap : l.length ≤ e) (hmost : e ≤ 9223372036854775807) :
    Calls Tryz.prog 51 #[.agg #[.int .i64 5, .string ⟨t.toArray⟩, x0, x1, x2, x3, x4, f, .slice K l.length e, a]] w fun e1 w' => e1 = .returned (.bool (shapeK 5 (l.map N.kind))) ∧ Below w.heap.size w w' := by
  have HL := Lib.hid hl
  clear hl
  go_enter Tryz.func51, Tryz.ntmps51
  go_wp2_with fail
  go_loopw [4, 5] (fun x i wr => ∃ k : Nat, k ≤ l.length ∧ i = .int .i64 (k : Int) ∧ x = .bool ((l.take k).all (fun n => exprK n.kind)) ∧ wr = w.alloc (.cells #[.int .i64 5, .string ⟨t.toArray⟩, x0, x1, x2, x3, x4, f, .slice K l.length e, a] 28)) (fun _ i _ => l.length - (intOf i).toNat)
  case atStart => exact ⟨0, Nat.zero_le _, rfl, rfl, rfl⟩
  case round =>
    obtain ⟨k, hk, rfl, rfl, rfl⟩ := hrel
    by_cases hlt : k < l.length
    · have hlA : (k : Int) < (l.length : Int) := by omega
      have h00 : (0 : Int) ≤ (k : Int) := by omega
      have hst := Lib.hid (all_take_step (l := l) (k := k) hlt (fun n => exprK n.kind))
      obtain ⟨g, off, A', c', B', d', K', e', rfl, _, hk', k0, _⟩ := HL.out.elem k hlt
      have k1 := fun X => bcell (one_al w X) k0
      clear hk' k0
      generalize l[k] = Y at *
      cases hq : (l.take k).all (fun n => exprK n.kind)
      all_goals
        have HQ := Lib.hid hq
        clear hq
        go_wp2_with fail
        refine (rf_IsExpr Y.kind _).mono ?_
        rintro e1 w1 ⟨rfl, rfl⟩
        go_wp2_with fail
        exact ⟨⟨k + 1, by omega, by go_num, by rw [hst.out, HQ.out]; rfl, by trivial⟩, by simp [intOf]; omega⟩
    · have hlA : ¬ (k : Int) < (l.length : Int) := by omega
      have hkk : l.take k = l := List.take_of_length_le (by omega)
      rw [hkk]
      clear hkk
      cases hE : l.all (fun n => exprK n.kind)
      all_goals
        have HE := Lib.hid hE
        clear hE
        go_wp2_with fail
        go_ret
        refine ⟨ret_bool ?_, one_al _ _⟩
        rw [Bool.eq_iff_iff]
        simp [shapeK, Function.comp_def, HE.out] <;> omega
set_option maxRecDepth 20000 in
set_option maxHeartbeats 4000000 in
theorem kids_6 (t : List UInt8) (x0 x1 x2 x3 x4 f a : Value) (l : List N) (K : Option Addr) (e : Nat) (ok : Nat → Prop) (w : World) (hl : RdNs ok w (.slice K l.length e) 0 l) (hlen : l.length ≤ 16777216) (hcap : l.length ≤ e) (hmost : e ≤ 9223372036854775807) :
    Calls Tryz.prog 51 #[.agg #[.int .i64 6, .string ⟨t.toArray⟩, x0, x1, x2, x3, x4, f, .slice K l.length e, a]] w fun e1 w' => e1 = .returned (.bool (shapeK 6 (l.map N.kind))) ∧ Below w.heap.size w w' := by
  have HL := Lib.hid hl
  clear hl
  go_enter Tryz.func51, Tryz.ntmps51
  go_wp2_with fail
  go_loopw [4, 5] (fun x i wr => ∃ k : Nat, k ≤ l.length ∧ i = .int .i64 (k : Int) ∧ x = .bool ((l.take k).all (fun n => exprK n.kind)) ∧ wr = w.alloc (.cells #[.int .i64 6, .string ⟨t.toArray⟩, x0, x1, x2, x3, x4, f, .slice K l.length e, a] 28)) (fun _ i _ => l.length - (intOf i).toNat)
  case atStart => exact ⟨0, Nat.zero_le _, rfl, rfl, rfl⟩
  case round =>
    obtain ⟨k, hk, rfl, rfl, rfl⟩ := hrel
    by_cases hlt : k < l.length
    · have hlA : (k : Int) < (l.length : Int) := by omega
      have h00 : (0 : Int) ≤ (k : Int) := by omega
      have hst := Lib.hid (all_take_step (l := l) (k := k) hlt (fun n => exprK n.kind))
      obtain ⟨g, off, A', c', B', d', K', e', rfl, _, hk', k0, _⟩ := HL.out.elem k hlt
      have k1 := fun X => bcell (one_al w X) k0
      clear hk' k0
      generalize l[k] = Y at *
      cases hq : (l.take k).all (fun n => exprK n.kind)
      all_goals
        have HQ := Lib.hid hq
        clear hq
        go_wp2_with fail
        refine (rf_IsExpr Y.kind _).mono ?_
        rintro e1 w1 ⟨rfl, rfl⟩
        go_wp2_with fail
        exact ⟨⟨k + 1, by omega, by go_num, by rw [hst.out, HQ.out]; rfl, by trivial⟩, by simp [intOf]; omega⟩
    · have hlA : ¬ (k : Int) < (l.length : Int) := by omega
      have hkk : l.take k = l := List.take_of_length_le (by omega)
      rw [hkk]
      clear hkk
      cases hE : l.all (fun n => exprK n.kind)
      all_goals
        have HE := Lib.hid hE
        clear hE
        go_wp2_with fail
        go_ret
        refine ⟨ret_bool ?_, one_al _ _⟩
        rw [Bool.eq_iff_iff]
        simp [shapeK, Function.comp_def, HE.out] <;> omega
set_option maxRecDepth 20000 in
set_option maxHeartbeats 4000000 in
theorem kids_7_2 (t : List UInt8) (x0 x1 x2 x3 x4 f a : Value) (y z : N) (K : Option Addr) (e : Nat) (ok : Nat → Prop) (w : World) (hl : RdNs ok w (.slice K 2 e) 0 [y, z]) (hcap : 2 ≤ e) (hmost : e ≤ 9223372036854775807) :
    Calls Tryz.prog 51 #[.agg #[.int .i64 7, .string ⟨t.toArray⟩, x0, x1, x2, x3, x4, f, .slice K 2 e, a]] w fun e1 w' => e1 = .returned (.bool (shapeK 7 ([y, z].map N.kind))) ∧ Below w.heap.size w w' := by
  have hs : shapeK 7 ([y, z].map N.kind) = (exprK y.kind && (z.kind == 4)) := by rw [Bool.eq_iff_iff]; simp [shapeK]; intro _ h; exact Or.inl h
  rw [hs]
  clear hs
  have HL := Lib.hid hl
  clear hl
  go_enter Tryz.func51, Tryz.ntmps51
  go_wp2_with fail
  go_loopw [4, 5] (fun x i wr => ∃ k : Nat, k ≤ 2 ∧ i = .int .i64 (k : Int) ∧ x = .bool (([y, z].take k).all (fun n => exprK n.kind)) ∧ wr = w.alloc (.cells #[.int .i64 7, .string ⟨t.toArray⟩, x0, x1, x2, x3, x4, f, .slice K 2 e, a] 28)) (fun _ i _ => 2 - (intOf i).toNat)
  case atStart => exact ⟨0, Nat.zero_le _, rfl, rfl, rfl⟩
  case round =>
    obtain ⟨k, hk, rfl, rfl, rfl⟩ := hrel
    by_cases hlt : k < 2
    · have hlA : (k : Int) < (2 : Int) := by omega
      have h00 : (0 : Int) ≤ (k : Int) := by omega
      have hst := Lib.hid (all_take_step (l := [y, z]) (k := k) (by simpa using hlt) (fun n => exprK n.kind))
      obtain ⟨g, off, A', c', B', d', K', e', rfl, _, hk', k0, _⟩ := HL.out.elem k (by simpa using hlt)
      have k1 := fun X => bcell (one_al w X) k0
      clear hk' k0
      generalize [y, z][k]'((by simpa using hlt)) = Y at *
      cases hq : ([y, z].take k).all (fun n => exprK n.kind)
      all_goals
        have HQ := Lib.hid hq
        clear hq
        go_wp2_with fail
        refine (rf_IsExpr Y.kind _).mono ?_
        rintro e1 w1 ⟨rfl, rfl⟩
        go_wp2_with fail
        exact ⟨⟨k + 1, by omega, by go_num, by rw [hst.out, HQ.out]; rfl, by trivial⟩, by simp [intOf]; omega⟩
    · have hlA : ¬ (k : Int) < (2 : Int) := by omega
      have hkk : [y, z].take k = [y, z] := List.take_of_length_le (by simp; omega)
      rw [hkk]
      clear hkk
      obtain ⟨g, off, A', c', B', d', K', e', rfl, _, hk', k0, _⟩ := HL.out.elem 0 (by simp)
      have p0 := fun X => bcell (one_al w X) k0
      obtain ⟨g1, off1, _, _, _, _, _, _, hg, _, _, j1, _⟩ := HL.out.elem 1 (by simp)
      injection hg with hg
      injection hg with hg1 hg2
      subst hg1 hg2
      have p1 := fun X => bcell (one_al w X) j1
      simp only [List.getElem_cons_zero, List.getElem_cons_succ, Nat.zero_mul, Nat.one_mul, Nat.add_zero, Nat.reduceMul] at p0 p1
      clear HL hk' k0 j1 hk hlt
      go_wp2_with fail
      refine (rf_IsExpr y.kind _).mono ?_
      rintro e1 w1 ⟨rfl, rfl⟩
      cases hy : exprK y.kind
      all_goals
        have HY := Lib.hid hy
        clear hy
        go_wp2_with fail
        all_goals go_ret
        all_goals (refine ⟨ret_bool ?_, one_al _ _⟩; rw [HY.out]; simp_all)
set_option maxRecDepth 20000 in
set_option maxHeartbeats 4000000 in
theorem kids_7_3 (t : List UInt8) (x0 x1 x2 x3 x4 f a : Value) (y z u : N) (K : Option Addr) (e : Nat) (ok : Nat → Prop) (w : World) (hl : RdNs ok w (.slice K 3 e) 0 [y, z, u]) (hcap : 3 ≤ e) (hmost : e ≤ 9223372036854775807) :
    Calls Tryz.prog 51 #[.agg #[.int .i64 7, .string ⟨t.toArray⟩, x0, x1, x2, x3, x4, f, .slice K 3 e, a]] w fun e1 w' => e1 = .returned (.bool (shapeK 7 ([y, z, u].map N.kind))) ∧ Below w.heap.size w w' := by
  have hs : shapeK 7 ([y, z, u].map N.kind) = (exprK y.kind && (z.kind == 4 && (u.kind == 4 || u.kind == 7))) := by simp [shapeK]
  rw [hs]
  clear hs
  have HL := Lib.hid hl
  clear hl
  go_enter Tryz.func51, Tryz.ntmps51
  go_wp2_with fail
  go_loopw [4, 5] (fun x i wr => ∃ k : Nat, k ≤ 3 ∧ i = .int .i64 (k : Int) ∧ x = .bool (([y, z, u].take k).all (fun n => exprK n.kind)) ∧ wr = w.alloc (.cells #[.int .i64 7, .string ⟨t.toArray⟩, x0, x1, x2, x3, x4, f, .slice K 3 e, a] 28)) (fun _ i _ => 3 - (intOf i).toNat)
  case atStart => exact ⟨0, Nat.zero_le _, rfl, rfl, rfl⟩
  case round =>
    obtain ⟨k, hk, rfl, rfl, rfl⟩ := hrel
    by_cases hlt : k < 3
    · have hlA : (k : Int) < (3 : Int) := by omega
      have h00 : (0 : Int) ≤ (k : Int) := by omega
      have hst := Lib.hid (all_take_step (l := [y, z, u]) (k := k) (by simpa using hlt) (fun n => exprK n.kind))
      obtain ⟨g, off, A', c', B', d', K', e', rfl, _, hk', k0, _⟩ := HL.out.elem k (by simpa using hlt)
      have k1 := fun X => bcell (one_al w X) k0
      clear hk' k0
      generalize [y, z, u][k]'((by simpa using hlt)) = Y at *
      cases hq : ([y, z, u].take k).all (fun n => exprK n.kind)
      all_goals
        have HQ := Lib.hid hq
        clear hq
        go_wp2_with fail
        refine (rf_IsExpr Y.kind _).mono ?_
        rintro e1 w1 ⟨rfl, rfl⟩
        go_wp2_with fail
        exact ⟨⟨k + 1, by omega, by go_num, by rw [hst.out, HQ.out]; rfl, by trivial⟩, by simp [intOf]; omega⟩
    · have hlA : ¬ (k : Int) < (3 : Int) := by omega
      have hkk : [y, z, u].take k = [y, z, u] := List.take_of_length_le (by simp; omega)
      rw [hkk]
      clear hkk
      obtain ⟨g, off, A', c', B', d', K', e', rfl, _, hk', k0, _⟩ := HL.out.elem 0 (by simp)
      have p0 := fun X => bcell (one_al w X) k0
      obtain ⟨g1, off1, _, _, _, _, _, _, hg, _, _, j1, _⟩ := HL.out.elem 1 (by simp)
      injection hg with hg
      injection hg with hg1 hg2
      subst hg1 hg2
      have p1 := fun X => bcell (one_al w X) j1
      obtain ⟨g2, off2, _, _, _, _, _, _, hg, _, _, j2, _⟩ := HL.out.elem 2 (by simp)
      injection hg with hg
      injection hg with hg1 hg2
      subst hg1 hg2
      have p2 := fun X => bcell (one_al w X) j2
      simp only [List.getElem_cons_zero, List.getElem_cons_succ, Nat.zero_mul, Nat.one_mul, Nat.add_zero, Nat.reduceMul] at p0 p1 p2
      clear HL hk' k0 j1 hk hlt j2
      go_wp2_with fail
      refine (rf_IsExpr y.kind _).mono ?_
      rintro e1 w1 ⟨rfl, rfl⟩
      cases hy : exprK y.kind
      all_goals
        have HY := Lib.hid hy
        clear hy
        go_wp2_with fail
        all_goals go_ret
        all_goals (refine ⟨ret_bool ?_, one_al _ _⟩; rw [HY.out]; simp_all)
set_option maxRecDepth 20000 in
set_option maxHeartbeats 4000000 in
theorem kids_7_lt (t : List UInt8) (x0 x1 x2 x3 x4 f a : Value) (l : List N) (K : Option Addr) (e : Nat) (ok : Nat → Prop) (w : World) (hl : RdNs ok w (.slice K l.length e) 0 l) (hlen : l.length ≤ 16777216) (hcap : l.length ≤ e) (hmost : e ≤ 9223372036854775807) (h2 : (l.length : Int) < 2) :
    Calls Tryz.prog 51 #[.agg #[.int .i64 7, .string ⟨t.toArray⟩, x0, x1, x2, x3, x4, f, .slice K l.length e, a]] w fun e1 w' => e1 = .returned (.bool (shapeK 7 (l.map N.kind))) ∧ Below w.heap.size w w' := by
  have hs : shapeK 7 (l.map N.kind) = false := by simp [shapeK]; omega
  rw [hs]
  clear hs
  have HL := Lib.hid hl
  clear hl
  go_enter Tryz.func51, Tryz.ntmps51
  go_wp2_with fail
  go_loopw [4, 5] (fun x i wr => ∃ k : Nat, k ≤ l.length ∧ i = .int .i64 (k : Int) ∧ x = .bool ((l.take k).all (fun n => exprK n.kind)) ∧ wr = w.alloc (.cells #[.int .i64 7, .string ⟨t.toArray⟩, x0, x1, x2, x3, x4, f, .slice K l.length e, a] 28)) (fun _ i _ => l.length - (intOf i).toNat)
  case atStart => exact ⟨0, Nat.zero_le _, rfl, rfl, rfl⟩
  case round =>
    obtain ⟨k, hk, rfl, rfl, rfl⟩ := hrel
    by_cases hlt : k < l.length
    · have hlA : (k : Int) < (l.length : Int) := by omega
      have h00 : (0 : Int) ≤ (k : Int) := by omega
      have hst := Lib.hid (all_take_step (l := l) (k := k) hlt (fun n => exprK n.kind))
      obtain ⟨g, off, A', c', B', d', K', e', rfl, _, hk', k0, _⟩ := HL.out.elem k hlt
      have k1 := fun X => bcell (one_al w X) k0
      clear hk' k0
      generalize l[k] = Y at *
      cases hq : (l.take k).all (fun n => exprK n.kind)
      all_goals
        have HQ := Lib.hid hq
        clear hq
        go_wp2_with fail
        refine (rf_IsExpr Y.kind _).mono ?_
        rintro e1 w1 ⟨rfl, rfl⟩
        go_wp2_with fail
        exact ⟨⟨k + 1, by omega, by go_num, by rw [hst.out, HQ.out]; rfl, by trivial⟩, by simp [intOf]; omega⟩
    · have hlA : ¬ (k : Int) < (l.length : Int) := by omega
      have hkk : l.take k = l := List.take_of_length_le (by omega)
      rw [hkk]
      clear hkk
      go_wp2_with fail
      go_ret
      exact ⟨rfl, one_al _ _⟩
set_option maxRecDepth 20000 in
set_option maxHeartbeats 4000000 in
theorem kids_7_gt (t : List UInt8) (x0 x1 x2 x3 x4 f a : Value) (l : List N) (K : Option Addr) (e : Nat) (ok : Nat → Prop) (w : World) (hl : RdNs ok w (.slice K l.length e) 0 l) (hlen : l.length ≤ 16777216) (hcap : l.length ≤ e) (hmost : e ≤ 9223372036854775807) (h3 : 3 < (l.length : Int)) :
    Calls Tryz.prog 51 #[.agg #[.int .i64 7, .string ⟨t.toArray⟩, x0, x1, x2, x3, x4, f, .slice K l.length e, a]] w fun e1 w' => e1 = .returned (.bool (shapeK 7 (l.map N.kind))) ∧ Below w.heap.size w w' := by
  have hs : shapeK 7 (l.map N.kind) = false := by simp [shapeK]; omega
  rw [hs]
  clear hs
  have HL := Lib.hid hl
  clear hl
  go_enter Tryz.func51, Tryz.ntmps51
  go_wp2_with fail
  go_loopw [4, 5] (fun x i wr => ∃ k : Nat, k ≤ l.length ∧ i = .int .i64 (k : Int) ∧ x = .bool ((l.take k).all (fun n => exprK n.kind)) ∧ wr = w.alloc (.cells #[.int .i64 7, .string ⟨t.toArray⟩, x0, x1, x2, x3, x4, f, .slice K l.length e, a] 28)) (fun _ i _ => l.length - (intOf i).toNat)
  case atStart => exact ⟨0, Nat.zero_le _, rfl, rfl, rfl⟩
  case round =>
    obtain ⟨k, hk, rfl, rfl, rfl⟩ := hrel
    by_cases hlt : k < l.length
    · have hlA : (k : Int) < (l.length : Int) := by omega
      have h00 : (0 : Int) ≤ (k : Int) := by omega
      have hst := Lib.hid (all_take_step (l := l) (k := k) hlt (fun n => exprK n.kind))
      obtain ⟨g, off, A', c', B', d', K', e', rfl, _, hk', k0, _⟩ := HL.out.elem k hlt
      have k1 := fun X => bcell (one_al w X) k0
      clear hk' k0
      generalize l[k] = Y at *
      cases hq : (l.take k).all (fun n => exprK n.kind)
      all_goals
        have HQ := Lib.hid hq
        clear hq
        go_wp2_with fail
        refine (rf_IsExpr Y.kind _).mono ?_
        rintro e1 w1 ⟨rfl, rfl⟩
        go_wp2_with fail
        exact ⟨⟨k + 1, by omega, by go_num, by rw [hst.out, HQ.out]; rfl, by trivial⟩, by simp [intOf]; omega⟩
    · have hlA : ¬ (k : Int) < (l.length : Int) := by omega
      have hkk : l.take k = l := List.take_of_length_le (by omega)
      rw [hkk]
      clear hkk
      go_wp2_with fail
      go_ret
      exact ⟨rfl, one_al _ _⟩
theorem kids_7 (t : List UInt8) (x0 x1 x2 x3 x4 f a : Value) (l : List N) (K : Option Addr) (e : Nat) (ok : Nat → Prop) (w : World) (hl : RdNs ok w (.slice K l.length e) 0 l) (hlen : l.length ≤ 16777216) (hcap : l.length ≤ e) (hmost : e ≤ 9223372036854775807) :
    Calls Tryz.prog 51 #[.agg #[.int .i64 7, .string ⟨t.toArray⟩, x0, x1, x2, x3, x4, f, .slice K l.length e, a]] w fun e1 w' => e1 = .returned (.bool (shapeK 7 (l.map N.kind))) ∧ Below w.heap.size w w' := by
  by_cases h2 : (l.length : Int) < 2
  · exact kids_7_lt t x0 x1 x2 x3 x4 f a l K e ok w hl hlen hcap hmost h2
  · by_cases h3 : 3 < (l.length : Int)
    · exact kids_7_gt t x0 x1 x2 x3 x4 f a l K e ok w hl hlen hcap hmost h3
    · have h23 : l.length = 2 ∨ l.length = 3 := by omega
      rcases h23 with h | h
      · match l, h with
        | [y, z], _ => exact kids_7_2 t x0 x1 x2 x3 x4 f a y z K e ok w hl hcap hmost
      · match l, h with
        | [y, z, u], _ => exact kids_7_3 t x0 x1 x2 x3 x4 f a y z u K e ok w hl hcap hmost
set_option maxRecDepth 20000 in
set_option maxHeartbeats 4000000 in
theorem kids_8_2 (t : List UInt8) (x0 x1 x2 x3 x4 f a : Value) (y z : N) (K : Option Addr) (e : Nat) (ok : Nat → Prop) (w : World) (hl : RdNs ok w (.slice K 2 e) 0 [y, z]) (hcap : 2 ≤ e) (hmost : e ≤ 9223372036854775807) :
    Calls Tryz.prog 51 #[.agg #[.int .i64 8, .string ⟨t.toArray⟩, x0, x1, x2, x3, x4, f, .slice K 2 e, a]] w fun e1 w' => e1 = .returned (.bool (shapeK 8 ([y, z].map N.kind))) ∧ Below w.heap.size w w' := by
  have hs : shapeK 8 ([y, z].map N.kind) = (exprK y.kind && z.kind == 4) := by simp [shapeK]
  rw [hs]
  clear hs
  have HL := Lib.hid hl
  clear hl
  go_enter Tryz.func51, Tryz.ntmps51
  go_wp2_with fail
  go_loopw [4, 5] (fun x i wr => ∃ k : Nat, k ≤ 2 ∧ i = .int .i64 (k : Int) ∧ x = .bool (([y, z].take k).all (fun n => exprK n.kind)) ∧ wr = w.alloc (.cells #[.int .i64 8, .string ⟨t.toArray⟩, x0, x1, x2, x3, x4, f, .slice K 2 e, a] 28)) (fun _ i _ => 2 - (intOf i).toNat)
  case atStart => exact ⟨0, Nat.zero_le _, rfl, rfl, rfl⟩
  case round =>
    obtain ⟨k, hk, rfl, rfl, rfl⟩ := hrel
    by_cases hlt : k < 2
    · have hlA : (k : Int) < (2 : Int) := by omega
      have h00 : (0 : Int) ≤ (k : Int) := by omega
      have hst := Lib.hid (all_take_step (l := [y, z]) (k := k) (by simpa using hlt) (fun n => exprK n.kind))
      obtain ⟨g, off, A', c', B', d', K', e', rfl, _, hk', k0, _⟩ := HL.out.elem k (by simpa using hlt)
      have k1 := fun X => bcell (one_al w X) k0
      clear hk' k0
      generalize [y, z][k]'((by simpa using hlt)) = Y at *
      cases hq : ([y, z].take k).all (fun n => exprK n.kind)
      all_goals
        have HQ := Lib.hid hq
        clear hq
        go_wp2_with fail
        refine (rf_IsExpr Y.kind _).mono ?_
        rintro e1 w1 ⟨rfl, rfl⟩
        go_wp2_with fail
        exact ⟨⟨k + 1, by omega, by go_num, by rw [hst.out, HQ.out]; rfl, by trivial⟩, by simp [intOf]; omega⟩
    · have hlA : ¬ (k : Int) < (2 : Int) := by omega
      have hkk : [y, z].take k = [y, z] := List.take_of_length_le (by simp; omega)
      rw [hkk]
      clear hkk
      obtain ⟨g, off, A', c', B', d', K', e', rfl, _, hk', k0, _⟩ := HL.out.elem 0 (by simp)
      have p0 := fun X => bcell (one_al w X) k0
      obtain ⟨g1, off1, _, _, _, _, _, _, hg, _, _, j1, _⟩ := HL.out.elem 1 (by simp)
      injection hg with hg
      injection hg with hg1 hg2
      subst hg1 hg2
      have p1 := fun X => bcell (one_al w X) j1
      simp only [List.getElem_cons_zero, List.getElem_cons_succ, Nat.zero_mul, Nat.one_mul, Nat.add_zero, Nat.reduceMul] at p0 p1
      clear HL hk' k0 j1 hk hlt
      go_wp2_with fail
      refine (rf_IsExpr y.kind _).mono ?_
      rintro e1 w1 ⟨rfl, rfl⟩
      cases hy : exprK y.kind
      all_goals
        have HY := Lib.hid hy
        clear hy
        go_wp2_with fail
        all_goals go_ret
        all_goals (refine ⟨ret_bool ?_, one_al _ _⟩; rw [HY.out]; simp_all)
set_option maxRecDepth 20000 in
set_option maxHeartbeats 4000000 in
theorem kids_8_3 (t : List UInt8) (x0 x1 x2 x3 x4 f a : Value) (y z u : N) (K : Option Addr) (e : Nat) (ok : Nat → Prop) (w : World) (hl : RdNs ok w (.slice K 3 e) 0 [y, z, u]) (hcap : 3 ≤ e) (hmost : e ≤ 9223372036854775807) :
    Calls Tryz.prog 51 #[.agg #[.int .i64 8, .string ⟨t.toArray⟩, x0, x1, x2, x3, x4, f, .slice K 3 e, a]] w fun e1 w' => e1 = .returned (.bool (shapeK 8 ([y, z, u].map N.kind))) ∧ Below w.heap.size w w' := by
  have hs : shapeK 8 ([y, z, u].map N.kind) = (false) := by simp [shapeK]
  rw [hs]
  clear hs
  have HL := Lib.hid hl
  clear hl
  go_enter Tryz.func51, Tryz.ntmps51
  go_wp2_with fail
  go_loopw [4, 5] (fun x i wr => ∃ k : Nat, k ≤ 3 ∧ i = .int .i64 (k : Int) ∧ x = .bool (([y, z, u].take k).all (fun n => exprK n.kind)) ∧ wr = w.alloc (.cells #[.int .i64 8, .string ⟨t.toArray⟩, x0, x1, x2, x3, x4, f, .slice K 3 e, a] 28)) (fun _ i _ => 3 - (intOf i).toNat)
  case atStart => exact ⟨0, Nat.zero_le _, rfl, rfl, rfl⟩
  case round =>
    obtain ⟨k, hk, rfl, rfl, rfl⟩ := hrel
    by_cases hlt : k < 3
    · have hlA : (k : Int) < (3 : Int) := by omega
      have h00 : (0 : Int) ≤ (k : Int) := by omega
      have hst := Lib.hid (all_take_step (l := [y, z, u]) (k := k) (by simpa using hlt) (fun n => exprK n.kind))
      obtain ⟨g, off, A', c', B', d', K', e', rfl, _, hk', k0, _⟩ := HL.out.elem k (by simpa using hlt)
      have k1 := fun X => bcell (one_al w X) k0
      clear hk' k0
      generalize [y, z, u][k]'((by simpa using hlt)) = Y at *
      cases hq : ([y, z, u].take k).all (fun n => exprK n.kind)
      all_goals
        have HQ := Lib.hid hq
        clear hq
        go_wp2_with fail
        refine (rf_IsExpr Y.kind _).mono ?_
        rintro e1 w1 ⟨rfl, rfl⟩
        go_wp2_with fail
        exact ⟨⟨k + 1, by omega, by go_num, by rw [hst.out, HQ.out]; rfl, by trivial⟩, by simp [intOf]; omega⟩
    · have hlA : ¬ (k : Int) < (3 : Int) := by omega
      have hkk : [y, z, u].take k = [y, z, u] := List.take_of_length_le (by simp; omega)
      rw [hkk]
      clear hkk
      go_wp2_with fail
      go_ret
      exact ⟨rfl, one_al _ _⟩
set_option maxRecDepth 20000 in
set_option maxHeartbeats 4000000 in
theorem kids_8_lt (t : List UInt8) (x0 x1 x2 x3 x4 f a : Value) (l : List N) (K : Option Addr) (e : Nat) (ok : Nat → Prop) (w : World) (hl : RdNs ok w (.slice K l.length e) 0 l) (hlen : l.length ≤ 16777216) (hcap : l.length ≤ e) (hmost : e ≤ 9223372036854775807) (h2 : (l.length : Int) < 2) :
    Calls Tryz.prog 51 #[.agg #[.int .i64 8, .string ⟨t.toArray⟩, x0, x1, x2, x3, x4, f, .slice K l.length e, a]] w fun e1 w' => e1 = .returned (.bool (shapeK 8 (l.map N.kind))) ∧ Below w.heap.size w w' := by
  have hs : shapeK 8 (l.map N.kind) = false := by simp [shapeK]; omega
  rw [hs]
  clear hs
  have HL := Lib.hid hl
  clear hl
  go_enter Tryz.func51, Tryz.ntmps51
  go_wp2_with fail
  go_loopw [4, 5] (fun x i wr => ∃ k : Nat, k ≤ l.length ∧ i = .int .i64 (k : Int) ∧ x = .bool ((l.take k).all (fun n => exprK n.kind)) ∧ wr = w.alloc (.cells #[.int .i64 8, .string ⟨t.toArray⟩, x0, x1, x2, x3, x4, f, .slice K l.length e, a] 28)) (fun _ i _ => l.length - (intOf i).toNat)
  case atStart => exact ⟨0, Nat.zero_le _, rfl, rfl, rfl⟩
  case round =>
    obtain ⟨k, hk, rfl, rfl, rfl⟩ := hrel
    by_cases hlt : k < l.length
    · have hlA : (k : Int) < (l.length : Int) := by omega
      have h00 : (0 : Int) ≤ (k : Int) := by omega
      have hst := Lib.hid (all_take_step (l := l) (k := k) hlt (fun n => exprK n.kind))
      obtain ⟨g, off, A', c', B', d', K', e', rfl, _, hk', k0, _⟩ := HL.out.elem k hlt
      have k1 := fun X => bcell (one_al w X) k0
      clear hk' k0
      generalize l[k] = Y at *
      cases hq : (l.take k).all (fun n => exprK n.kind)
      all_goals
        have HQ := Lib.hid hq
        clear hq
        go_wp2_with fail
        refine (rf_IsExpr Y.kind _).mono ?_
        rintro e1 w1 ⟨rfl, rfl⟩
        go_wp2_with fail
        exact ⟨⟨k + 1, by omega, by go_num, by rw [hst.out, HQ.out]; rfl, by trivial⟩, by simp [intOf]; omega⟩
    · have hlA : ¬ (k : Int) < (l.length : Int) := by omega
      have hkk : l.take k = l := List.take_of_length_le (by omega)
      rw [hkk]
      clear hkk
      go_wp2_with fail
      go_ret
      exact ⟨rfl, one_al _ _⟩
set_option maxRecDepth 20000 in
set_option maxHeartbeats 4000000 in
theorem kids_8_gt (t : List UInt8) (x0 x1 x2 x3 x4 f a : Value) (l : List N) (K : Option Addr) (e : Nat) (ok : Nat → Prop) (w : World) (hl : RdNs ok w (.slice K l.length e) 0 l) (hlen : l.length ≤ 16777216) (hcap : l.length ≤ e) (hmost : e ≤ 9223372036854775807) (h3 : 3 < (l.length : Int)) :
    Calls Tryz.prog 51 #[.agg #[.int .i64 8, .string ⟨t.toArray⟩, x0, x1, x2, x3, x4, f, .slice K l.length e, a]] w fun e1 w' => e1 = .returned (.bool (shapeK 8 (l.map N.kind))) ∧ Below w.heap.size w w' := by
  have hs : shapeK 8 (l.map N.kind) = false := by simp [shapeK]; omega
  rw [hs]
  clear hs
  have HL := Lib.hid hl
  clear hl
  go_enter Tryz.func51, Tryz.ntmps51
  go_wp2_with fail
  go_loopw [4, 5] (fun x i wr => ∃ k : Nat, k ≤ l.length ∧ i = .int .i64 (k : Int) ∧ x = .bool ((l.take k).all (fun n => exprK n.kind)) ∧ wr = w.alloc (.cells #[.int .i64 8, .string ⟨t.toArray⟩, x0, x1, x2, x3, x4, f, .slice K l.length e, a] 28)) (fun _ i _ => l.length - (intOf i).toNat)
  case atStart => exact ⟨0, Nat.zero_le _, rfl, rfl, rfl⟩
  case round =>
    obtain ⟨k, hk, rfl, rfl, rfl⟩ := hrel
    by_cases hlt : k < l.length
    · have hlA : (k : Int) < (l.length : Int) := by omega
      have h00 : (0 : Int) ≤ (k : Int) := by omega
      have hst := Lib.hid (all_take_step (l := l) (k := k) hlt (fun n => exprK n.kind))
      obtain ⟨g, off, A', c', B', d', K', e', rfl, _, hk', k0, _⟩ := HL.out.elem k hlt
      have k1 := fun X => bcell (one_al w X) k0
      clear hk' k0
      generalize l[k] = Y at *
      cases hq : (l.take k).all (fun n => exprK n.kind)
      all_goals
        have HQ := Lib.hid hq
        clear hq
        go_wp2_with fail
        refine (rf_IsExpr Y.kind _).mono ?_
        rintro e1 w1 ⟨rfl, rfl⟩
        go_wp2_with fail
        exact ⟨⟨k + 1, by omega, by go_num, by rw [hst.out, HQ.out]; rfl, by trivial⟩, by simp [intOf]; omega⟩
    · have hlA : ¬ (k : Int) < (l.length : Int) := by omega
      have hkk : l.take k = l := List.take_of_length_le (by omega)
      rw [hkk]
      clear hkk
      go_wp2_with fail
      go_ret
      exact ⟨rfl, one_al _ _⟩
theorem kids_8 (t : List UInt8) (x0 x1 x2 x3 x4 f a : Value) (l : List N) (K : Option Addr) (e : Nat) (ok : Nat → Prop) (w : World) (hl : RdNs ok w (.slice K l.length e) 0 l) (hlen : l.length ≤ 16777216) (hcap : l.length ≤ e) (hmost : e ≤ 9223372036854775807) :
    Calls Tryz.prog 51 #[.agg #[.int .i64 8, .string ⟨t.toArray⟩, x0, x1, x2, x3, x4, f, .slice K l.length e, a]] w fun e1 w' => e1 = .returned (.bool (shapeK 8 (l.map N.kind))) ∧ Below w.heap.size w w' := by
  by_cases h2 : (l.length : Int) < 2
  · exact kids_8_lt t x0 x1 x2 x3 x4 f a l K e ok w hl hlen hcap hmost h2
  · by_cases h3 : 3 < (l.length : Int)
    · exact kids_8_gt t x0 x1 x2 x3 x4 f a l K e ok w hl hlen hcap hmost h3
    · have h23 : l.length = 2 ∨ l.length = 3 := by omega
      rcases h23 with h | h
      · match l, h with
        | [y, z], _ => exact kids_8_2 t x0 x1 x2 x3 x4 f a y z K e ok w hl hcap hmost
      · match l, h with
        | [y, z, u], _ => exact kids_8_3 t x0 x1 x2 x3 x4 f a y z u K e ok w hl hcap hmost
set_option maxRecDepth 20000 in
set_option maxHeartbeats 4000000 in
theorem kids_9 (t : List UInt8) (x0 x1 x2 x3 x4 f a : Value) (l : List N) (K : Option Addr) (e : Nat) (ok : Nat → Prop) (w : World) (hl : RdNs ok w (.slice K l.length e) 0 l) (hlen : l.length ≤ 16777216) (hcap : l.length ≤ e) (hmost : e ≤ 9223372036854775807) :
    Calls Tryz.prog 51 #[.agg #[.int .i64 9, .string ⟨t.toArray⟩, x0, x1, x2, x3, x4, f, .slice K l.length e, a]] w fun e1 w' => e1 = .returned (.bool (shapeK 9 (l.map N.kind))) ∧ Below w.heap.size w w' := by
  have HL := Lib.hid hl
  clear hl
  go_enter Tryz.func51, Tryz.ntmps51
  go_wp2_with fail
  go_loopw [4, 5] (fun x i wr => ∃ k : Nat, k ≤ l.length ∧ i = .int .i64 (k : Int) ∧ x = .bool ((l.take k).all (fun n => exprK n.kind)) ∧ wr = w.alloc (.cells #[.int .i64 9, .string ⟨t.toArray⟩, x0, x1, x2, x3, x4, f, .slice K l.length e, a] 28)) (fun _ i _ => l.length - (intOf i).toNat)
  case atStart => exact ⟨0, Nat.zero_le _, rfl, rfl, rfl⟩
  case round =>
    obtain ⟨k, hk, rfl, rfl, rfl⟩ := hrel
    by_cases hlt : k < l.length
    · have hlA : (k : Int) < (l.length : Int) := by omega
      have h00 : (0 : Int) ≤ (k : Int) := by omega
      have hst := Lib.hid (all_take_step (l := l) (k := k) hlt (fun n => exprK n.kind))
      obtain ⟨g, off, A', c', B', d', K', e', rfl, _, hk', k0, _⟩ := HL.out.elem k hlt
      have k1 := fun X => bcell (one_al w X) k0
      clear hk' k0
      generalize l[k] = Y at *
      cases hq : (l.take k).all (fun n => exprK n.kind)
      all_goals
        have HQ := Lib.hid hq
        clear hq
        go_wp2_with fail
        refine (rf_IsExpr Y.kind _).mono ?_
        rintro e1 w1 ⟨rfl, rfl⟩
        go_wp2_with fail
        exact ⟨⟨k + 1, by omega, by go_num, by rw [hst.out, HQ.out]; rfl, by trivial⟩, by simp [intOf]; omega⟩
    · have hlA : ¬ (k : Int) < (l.length : Int) := by omega
      have hkk : l.take k = l := List.take_of_length_le (by omega)
      rw [hkk]
      clear hkk
      cases hE : l.all (fun n => exprK n.kind)
      all_goals
        have HE := Lib.hid hE
        clear hE
        go_wp2_with fail
        go_ret
        refine ⟨ret_bool ?_, one_al _ _⟩
        rw [Bool.eq_iff_iff]
        simp [shapeK, Function.comp_def, HE.out] <;> omega
set_option maxRecDepth 20000 in
set_option maxHeartbeats 4000000 in
theorem kids_10 (t : List UInt8) (x0 x1 x2 x3 x4 f a : Value) (l : List N) (K : Option Addr) (e : Nat) (ok : Nat → Prop) (w : World) (hl : RdNs ok w (.slice K l.length e) 0 l) (hlen : l.length ≤ 16777216) (hcap : l.length ≤ e) (hmost : e ≤ 9223372036854775807) :
    Calls Tryz.prog 51 #[.agg #[.int .i64 10, .string ⟨t.toArray⟩, x0, x1, x2, x3, x4, f, .slice K l.length e, a]] w fun e1 w' => e1 = .returned (.bool (shapeK 10 (l.map N.kind))) ∧ Below w.heap.size w w' := by
  have HL := Lib.hid hl
  clear hl
  go_enter Tryz.func51, Tryz.ntmps51
  go_wp2_with fail
  go_loopw [4, 5] (fun x i wr => ∃ k : Nat, k ≤ l.length ∧ i = .int .i64 (k : Int) ∧ x = .bool ((l.take k).all (fun n => exprK n.kind)) ∧ wr = w.alloc (.cells #[.int .i64 10, .string ⟨t.toArray⟩, x0, x1, x2, x3, x4, f, .slice K l.length e, a] 28)) (fun _ i _ => l.length - (intOf i).toNat)
  case atStart => exact ⟨0, Nat.zero_le _, rfl, rfl, rfl⟩
  case round =>
    obtain ⟨k, hk, rfl, rfl, rfl⟩ := hrel
    by_cases hlt : k < l.length
    · have hlA : (k : Int) < (l.length : Int) := by omega
      have h00 : (0 : Int) ≤ (k : Int) := by omega
      have hst := Lib.hid (all_take_step (l := l) (k := k) hlt (fun n => exprK n.kind))
      obtain ⟨g, off, A', c', B', d', K', e', rfl, _, hk', k0, _⟩ := HL.out.elem k hlt
      have k1 := fun X => bcell (one_al w X) k0
      clear hk' k0
      generalize l[k] = Y at *
      cases hq : (l.take k).all (fun n => exprK n.kind)
      all_goals
        have HQ := Lib.hid hq
        clear hq
        go_wp2_with fail
        refine (rf_IsExpr Y.kind _).mono ?_
        rintro e1 w1 ⟨rfl, rfl⟩
        go_wp2_with fail
        exact ⟨⟨k + 1, by omega, by go_num, by rw [hst.out, HQ.out]; rfl, by trivial⟩, by simp [intOf]; omega⟩
    · have hlA : ¬ (k : Int) < (l.length : Int) := by omega
      have hkk : l.take k = l := List.take_of_length_le (by omega)
      rw [hkk]
      clear hkk
      go_wp2_with fail
      go_ret
      exact ⟨ret_bool (by rw [Bool.eq_iff_iff]; simp [shapeK, ← List.length_eq_zero_iff]), one_al _ _⟩
set_option maxRecDepth 20000 in
set_option maxHeartbeats 4000000 in
theorem kids_11 (t : List UInt8) (x0 x1 x2 x3 x4 f a : Value) (l : List N) (K : Option Addr) (e : Nat) (ok : Nat → Prop) (w : World) (hl : RdNs ok w (.slice K l.length e) 0 l) (hlen : l.length ≤ 16777216) (hcap : l.length ≤ e) (hmost : e ≤ 9223372036854775807) :
    Calls Tryz.prog 51 #[.agg #[.int .i64 11, .string ⟨t.toArray⟩, x0, x1, x2, x3, x4, f, .slice K l.length e, a]] w fun e1 w' => e1 = .returned (.bool (shapeK 11 (l.map N.kind))) ∧ Below w.heap.size w w' := by
  have HL := Lib.hid hl
  clear hl
  go_enter Tryz.func51, Tryz.ntmps51
  go_wp2_with fail
  go_loopw [4, 5] (fun x i wr => ∃ k : Nat, k ≤ l.length ∧ i = .int .i64 (k : Int) ∧ x = .bool ((l.take k).all (fun n => exprK n.kind)) ∧ wr = w.alloc (.cells #[.int .i64 11, .string ⟨t.toArray⟩, x0, x1, x2, x3, x4, f, .slice K l.length e, a] 28)) (fun _ i _ => l.length - (intOf i).toNat)
  case atStart => exact ⟨0, Nat.zero_le _, rfl, rfl, rfl⟩
  case round =>
    obtain ⟨k, hk, rfl, rfl, rfl⟩ := hrel
    by_cases hlt : k < l.length
    · have hlA : (k : Int) < (l.length : Int) := by omega
      have h00 : (0 : Int) ≤ (k : Int) := by omega
      have hst := Lib.hid (all_take_step (l := l) (k := k) hlt (fun n => exprK n.kind))
      obtain ⟨g, off, A', c', B', d', K', e', rfl, _, hk', k0, _⟩ := HL.out.elem k hlt
      have k1 := fun X => bcell (one_al w X) k0
      clear hk' k0
      generalize l[k] = Y at *
      cases hq : (l.take k).all (fun n => exprK n.kind)
      all_goals
        have HQ := Lib.hid hq
        clear hq
        go_wp2_with fail
        refine (rf_IsExpr Y.kind _).mono ?_
        rintro e1 w1 ⟨rfl, rfl⟩
        go_wp2_with fail
        exact ⟨⟨k + 1, by omega, by go_num, by rw [hst.out, HQ.out]; rfl, by trivial⟩, by simp [intOf]; omega⟩
    · have hlA : ¬ (k : Int) < (l.length : Int) := by omega
      have hkk : l.take k = l := List.take_of_length_le (by omega)
      rw [hkk]
      clear hkk
      go_wp2_with fail
      go_ret
      exact ⟨ret_bool (by rw [Bool.eq_iff_iff]; simp [shapeK, ← List.length_eq_zero_iff]), one_al _ _⟩
set_option maxRecDepth 20000 in
set_option maxHeartbeats 4000000 in
theorem kids_12 (t : List UInt8) (x0 x1 x2 x3 x4 f a : Value) (l : List N) (K : Option Addr) (e : Nat) (ok : Nat → Prop) (w : World) (hl : RdNs ok w (.slice K l.length e) 0 l) (hlen : l.length ≤ 16777216) (hcap : l.length ≤ e) (hmost : e ≤ 9223372036854775807) :
    Calls Tryz.prog 51 #[.agg #[.int .i64 12, .string ⟨t.toArray⟩, x0, x1, x2, x3, x4, f, .slice K l.length e, a]] w fun e1 w' => e1 = .returned (.bool (shapeK 12 (l.map N.kind))) ∧ Below w.heap.size w w' := by
  have HL := Lib.hid hl
  clear hl
  go_enter Tryz.func51, Tryz.ntmps51
  go_wp2_with fail
  go_loopw [4, 5] (fun x i wr => ∃ k : Nat, k ≤ l.length ∧ i = .int .i64 (k : Int) ∧ x = .bool ((l.take k).all (fun n => exprK n.kind)) ∧ wr = w.alloc (.cells #[.int .i64 12, .string ⟨t.toArray⟩, x0, x1, x2, x3, x4, f, .slice K l.length e, a] 28)) (fun _ i _ => l.length - (intOf i).toNat)
  case atStart => exact ⟨0, Nat.zero_le _, rfl, rfl, rfl⟩
  case round =>
    obtain ⟨k, hk, rfl, rfl, rfl⟩ := hrel
    by_cases hlt : k < l.length
    · have hlA : (k : Int) < (l.length : Int) := by omega
      have h00 : (0 : Int) ≤ (k : Int) := by omega
      have hst := Lib.hid (all_take_step (l := l) (k := k) hlt (fun n => exprK n.kind))
      obtain ⟨g, off, A', c', B', d', K', e', rfl, _, hk', k0, _⟩ := HL.out.elem k hlt
      have k1 := fun X => bcell (one_al w X) k0
      clear hk' k0
      generalize l[k] = Y at *
      cases hq : (l.take k).all (fun n => exprK n.kind)
      all_goals
        have HQ := Lib.hid hq
        clear hq
        go_wp2_with fail
        refine (rf_IsExpr Y.kind _).mono ?_
        rintro e1 w1 ⟨rfl, rfl⟩
        go_wp2_with fail
        exact ⟨⟨k + 1, by omega, by go_num, by rw [hst.out, HQ.out]; rfl, by trivial⟩, by simp [intOf]; omega⟩
    · have hlA : ¬ (k : Int) < (l.length : Int) := by omega
      have hkk : l.take k = l := List.take_of_length_le (by omega)
      rw [hkk]
      clear hkk
      cases hE : l.all (fun n => exprK n.kind)
      all_goals
        have HE := Lib.hid hE
        clear hE
        go_wp2_with fail
        go_ret
        refine ⟨ret_bool ?_, one_al _ _⟩
        rw [Bool.eq_iff_iff]
        simp [shapeK, Function.comp_def, HE.out] <;> omega
set_option maxRecDepth 20000 in
set_option maxHeartbeats 4000000 in
theorem kids_13 (t : List UInt8) (x0 x1 x2 x3 x4 f a : Value) (l : List N) (K : Option Addr) (e : Nat) (ok : Nat → Prop) (w : World) (hl : RdNs ok w (.slice K l.length e) 0 l) (hlen : l.length ≤ 16777216) (hcap : l.length ≤ e) (hmost : e ≤ 9223372036854775807) :
    Calls Tryz.prog 51 #[.agg #[.int .i64 13, .string ⟨t.toArray⟩, x0, x1, x2, x3, x4, f, .slice K l.length e, a]] w fun e1 w' => e1 = .returned (.bool (shapeK 13 (l.map N.kind))) ∧ Below w.heap.size w w' := by
  have HL := Lib.hid hl
  clear hl
  go_enter Tryz.func51, Tryz.ntmps51
  go_wp2_with fail
  go_loopw [4, 5] (fun x i wr => ∃ k : Nat, k ≤ l.length ∧ i = .int .i64 (k : Int) ∧ x = .bool ((l.take k).all (fun n => exprK n.kind)) ∧ wr = w.alloc (.cells #[.int .i64 13, .string ⟨t.toArray⟩, x0, x1, x2, x3, x4, f, .slice K l.length e, a] 28)) (fun _ i _ => l.length - (intOf i).toNat)
  case atStart => exact ⟨0, Nat.zero_le _, rfl, rfl, rfl⟩
  case round =>
    obtain ⟨k, hk, rfl, rfl, rfl⟩ := hrel
    by_cases hlt : k < l.length
    · have hlA : (k : Int) < (l.length : Int) := by omega
      have h00 : (0 : Int) ≤ (k : Int) := by omega
      have hst := Lib.hid (all_take_step (l := l) (k := k) hlt (fun n => exprK n.kind))
      obtain ⟨g, off, A', c', B', d', K', e', rfl, _, hk', k0, _⟩ := HL.out.elem k hlt
      have k1 := fun X => bcell (one_al w X) k0
      clear hk' k0
      generalize l[k] = Y at *
      cases hq : (l.take k).all (fun n => exprK n.kind)
      all_goals
        have HQ := Lib.hid hq
        clear hq
        go_wp2_with fail
        refine (rf_IsExpr Y.kind _).mono ?_
        rintro e1 w1 ⟨rfl, rfl⟩
        go_wp2_with fail
        exact ⟨⟨k + 1, by omega, by go_num, by rw [hst.out, HQ.out]; rfl, by trivial⟩, by simp [intOf]; omega⟩
    · have hlA : ¬ (k : Int) < (l.length : Int) := by omega
      have hkk : l.take k = l := List.take_of_length_le (by omega)
      rw [hkk]
      clear hkk
      go_wp2_with fail
      go_ret
      exact ⟨ret_bool (by rw [Bool.eq_iff_iff]; simp [shapeK, ← List.length_eq_zero_iff]), one_al _ _⟩
set_option maxRecDepth 20000 in
set_option maxHeartbeats 4000000 in
theorem kids_14 (t : List UInt8) (x0 x1 x2 x3 x4 f a : Value) (l : List N) (K : Option Addr) (e : Nat) (ok : Nat → Prop) (w : World) (hl : RdNs ok w (.slice K l.length e) 0 l) (hlen : l.length ≤ 16777216) (hcap : l.length ≤ e) (hmost : e ≤ 9223372036854775807) :
    Calls Tryz.prog 51 #[.agg #[.int .i64 14, .string ⟨t.toArray⟩, x0, x1, x2, x3, x4, f, .slice K l.length e, a]] w fun e1 w' => e1 = .returned (.bool (shapeK 14 (l.map N.kind))) ∧ Below w.heap.size w w' := by
  have HL := Lib.hid hl
  clear hl
  go_enter Tryz.func51, Tryz.ntmps51
  go_wp2_with fail
  go_loopw [4, 5] (fun x i wr => ∃ k : Nat, k ≤ l.length ∧ i = .int .i64 (k : Int) ∧ x = .bool ((l.take k).all (fun n => exprK n.kind)) ∧ wr = w.alloc (.cells #[.int .i64 14, .string ⟨t.toArray⟩, x0, x1, x2, x3, x4, f, .slice K l.length e, a] 28)) (fun _ i _ => l.length - (intOf i).toNat)
  case atStart => exact ⟨0, Nat.zero_le _, rfl, rfl, rfl⟩
  case round =>
    obtain ⟨k, hk, rfl, rfl, rfl⟩ := hrel
    by_cases hlt : k < l.length
    · have hlA : (k : Int) < (l.length : Int) := by omega
      have h00 : (0 : Int) ≤ (k : Int) := by omega
      have hst := Lib.hid (all_take_step (l := l) (k := k) hlt (fun n => exprK n.kind))
      obtain ⟨g, off, A', c', B', d', K', e', rfl, _, hk', k0, _⟩ := HL.out.elem k hlt
      have k1 := fun X => bcell (one_al w X) k0
      clear hk' k0
      generalize l[k] = Y at *
      cases hq : (l.take k).all (fun n => exprK n.kind)
      all_goals
        have HQ := Lib.hid hq
        clear hq
        go_wp2_with fail
        refine (rf_IsExpr Y.kind _).mono ?_
        rintro e1 w1 ⟨rfl, rfl⟩
        go_wp2_with fail
        exact ⟨⟨k + 1, by omega, by go_num, by rw [hst.out, HQ.out]; rfl, by trivial⟩, by simp [intOf]; omega⟩
    · have hlA : ¬ (k : Int) < (l.length : Int) := by omega
      have hkk : l.take k = l := List.take_of_length_le (by omega)
      rw [hkk]
      clear hkk
      go_wp2_with fail
      go_ret
      exact ⟨ret_bool (by rw [Bool.eq_iff_iff]; simp [shapeK, ← List.length_eq_zero_iff]), one_al _ _⟩
set_option maxRecDepth 20000 in
set_option maxHeartbeats 4000000 in
theorem kids_15 (t : List UInt8) (x0 x1 x2 x3 x4 f a : Value) (l : List N) (K : Option Addr) (e : Nat) (ok : Nat → Prop) (w : World) (hl : RdNs ok w (.slice K l.length e) 0 l) (hlen : l.length ≤ 16777216) (hcap : l.length ≤ e) (hmost : e ≤ 9223372036854775807) :
    Calls Tryz.prog 51 #[.agg #[.int .i64 15, .string ⟨t.toArray⟩, x0, x1, x2, x3, x4, f, .slice K l.length e, a]] w fun e1 w' => e1 = .returned (.bool (shapeK 15 (l.map N.kind))) ∧ Below w.heap.size w w' := by
  have HL := Lib.hid hl
  clear hl
  go_enter Tryz.func51, Tryz.ntmps51
  go_wp2_with fail
  go_loopw [4, 5] (fun x i wr => ∃ k : Nat, k ≤ l.length ∧ i = .int .i64 (k : Int) ∧ x = .bool ((l.take k).all (fun n => exprK n.kind)) ∧ wr = w.alloc (.cells #[.int .i64 15, .string ⟨t.toArray⟩, x0, x1, x2, x3, x4, f, .slice K l.length e, a] 28)) (fun _ i _ => l.length - (intOf i).toNat)
  case atStart => exact ⟨0, Nat.zero_le _, rfl, rfl, rfl⟩
  case round =>
    obtain ⟨k, hk, rfl, rfl, rfl⟩ := hrel
    by_cases hlt : k < l.length
    · have hlA : (k : Int) < (l.length : Int) := by omega
      have h00 : (0 : Int) ≤ (k : Int) := by omega
      have hst := Lib.hid (all_take_step (l := l) (k := k) hlt (fun n => exprK n.kind))
      obtain ⟨g, off, A', c', B', d', K', e', rfl, _, hk', k0, _⟩ := HL.out.elem k hlt
      have k1 := fun X => bcell (one_al w X) k0
      clear hk' k0
      generalize l[k] = Y at *
      cases hq : (l.take k).all (fun n => exprK n.kind)
      all_goals
        have HQ := Lib.hid hq
        clear hq
        go_wp2_with fail
        refine (rf_IsExpr Y.kind _).mono ?_
        rintro e1 w1 ⟨rfl, rfl⟩
        go_wp2_with fail
        exact ⟨⟨k + 1, by omega, by go_num, by rw [hst.out, HQ.out]; rfl, by trivial⟩, by simp [intOf]; omega⟩
    · have hlA : ¬ (k : Int) < (l.length : Int) := by omega
      have hkk : l.take k = l := List.take_of_length_le (by omega)
      rw [hkk]
      clear hkk
      go_wp2_with fail
      go_ret
      exact ⟨ret_bool (by simp [shapeK, Function.comp_def]), one_al _ _⟩
set_option maxRecDepth 20000 in
set_option maxHeartbeats 4000000 in
theorem kids_16 (t : List UInt8) (x0 x1 x2 x3 x4 f a : Value) (l : List N) (K : Option Addr) (e : Nat) (ok : Nat → Prop) (w : World) (hl : RdNs ok w (.slice K l.length e) 0 l) (hlen : l.length ≤ 16777216) (hcap : l.length ≤ e) (hmost : e ≤ 9223372036854775807) :
    Calls Tryz.prog 51 #[.agg #[.int .i64 16, .string ⟨t.toArray⟩, x0, x1, x2, x3, x4, f, .slice K l.length e, a]] w fun e1 w' => e1 = .returned (.bool (shapeK 16 (l.map N.kind))) ∧ Below w.heap.size w w' := by
  have HL := Lib.hid hl
  clear hl
  go_enter Tryz.func51, Tryz.ntmps51
  go_wp2_with fail
  go_loopw [4, 5] (fun x i wr => ∃ k : Nat, k ≤ l.length ∧ i = .int .i64 (k : Int) ∧ x = .bool ((l.take k).all (fun n => exprK n.kind)) ∧ wr = w.alloc (.cells #[.int .i64 16, .string ⟨t.toArray⟩, x0, x1, x2, x3, x4, f, .slice K l.length e, a] 28)) (fun _ i _ => l.length - (intOf i).toNat)
  case atStart => exact ⟨0, Nat.zero_le _, rfl, rfl, rfl⟩
  case round =>
    obtain ⟨k, hk, rfl, rfl, rfl⟩ := hrel
    by_cases hlt : k < l.length
    · have hlA : (k : Int) < (l.length : Int) := by omega
      have h00 : (0 : Int) ≤ (k : Int) := by omega
      have hst := Lib.hid (all_take_step (l := l) (k := k) hlt (fun n => exprK n.kind))
      obtain ⟨g, off, A', c', B', d', K', e', rfl, _, hk', k0, _⟩ := HL.out.elem k hlt
      have k1 := fun X => bcell (one_al w X) k0
      clear hk' k0
      generalize l[k] = Y at *
      cases hq : (l.take k).all (fun n => exprK n.kind)
      all_goals
        have HQ := Lib.hid hq
        clear hq
        go_wp2_with fail
        refine (rf_IsExpr Y.kind _).mono ?_
        rintro e1 w1 ⟨rfl, rfl⟩
        go_wp2_with fail
        exact ⟨⟨k + 1, by omega, by go_num, by rw [hst.out, HQ.out]; rfl, by trivial⟩, by simp [intOf]; omega⟩
    · have hlA : ¬ (k : Int) < (l.length : Int) := by omega
      have hkk : l.take k = l := List.take_of_length_le (by omega)
      rw [hkk]
      clear hkk
      cases hE : l.all (fun n => exprK n.kind)
      all_goals
        have HE := Lib.hid hE
        clear hE
        go_wp2_with fail
        go_ret
        refine ⟨ret_bool ?_, one_al _ _⟩
        rw [Bool.eq_iff_iff]
        simp [shapeK, Function.comp_def, HE.out] <;> omega
set_option maxRecDepth 20000 in
set_option maxHeartbeats 4000000 in
theorem kids_17 (t : List UInt8) (x0 x1 x2 x3 x4 f a : Value) (l : List N) (K : Option Addr) (e : Nat) (ok : Nat → Prop) (w : World) (hl : RdNs ok w (.slice K l.length e) 0 l) (hlen : l.length ≤ 16777216) (hcap : l.length ≤ e) (hmost : e ≤ 9223372036854775807) :
    Calls Tryz.prog 51 #[.agg #[.int .i64 17, .string ⟨t.toArray⟩, x0, x1, x2, x3, x4, f, .slice K l.length e, a]] w fun e1 w' => e1 = .returned (.bool (shapeK 17 (l.map N.kind))) ∧ Below w.heap.size w w' := by
  have HL := Lib.hid hl
  clear hl
  go_enter Tryz.func51, Tryz.ntmps51
  go_wp2_with fail
  go_loopw [4, 5] (fun x i wr => ∃ k : Nat, k ≤ l.length ∧ i = .int .i64 (k : Int) ∧ x = .bool ((l.take k).all (fun n => exprK n.kind)) ∧ wr = w.alloc (.cells #[.int .i64 17, .string ⟨t.toArray⟩, x0, x1, x2, x3, x4, f, .slice K l.length e, a] 28)) (fun _ i _ => l.length - (intOf i).toNat)
  case atStart => exact ⟨0, Nat.zero_le _, rfl, rfl, rfl⟩
  case round =>
    obtain ⟨k, hk, rfl, rfl, rfl⟩ := hrel
    by_cases hlt : k < l.length
    · have hlA : (k : Int) < (l.length : Int) := by omega
      have h00 : (0 : Int) ≤ (k : Int) := by omega
      have hst := Lib.hid (all_take_step (l := l) (k := k) hlt (fun n => exprK n.kind))
      obtain ⟨g, off, A', c', B', d', K', e', rfl, _, hk', k0, _⟩ := HL.out.elem k hlt
      have k1 := fun X => bcell (one_al w X) k0
      clear hk' k0
      generalize l[k] = Y at *
      cases hq : (l.take k).all (fun n => exprK n.kind)
      all_goals
        have HQ := Lib.hid hq
        clear hq
        go_wp2_with fail
        refine (rf_IsExpr Y.kind _).mono ?_
        rintro e1 w1 ⟨rfl, rfl⟩
        go_wp2_with fail
        exact ⟨⟨k + 1, by omega, by go_num, by rw [hst.out, HQ.out]; rfl, by trivial⟩, by simp [intOf]; omega⟩
    · have hlA : ¬ (k : Int) < (l.length : Int) := by omega
      have hkk : l.take k = l := List.take_of_length_le (by omega)
      rw [hkk]
      clear hkk
      cases hE : l.all (fun n => exprK n.kind)
      all_goals
        have HE := Lib.hid hE
        clear hE
        go_wp2_with fail
        go_ret
        refine ⟨ret_bool ?_, one_al _ _⟩
        rw [Bool.eq_iff_iff]
        simp [shapeK, Function.comp_def, HE.out] <;> omega
set_option maxRecDepth 20000 in
set_option maxHeartbeats 4000000 in
theorem kids_18 (t : List UInt8) (x0 x1 x2 x3 x4 f a : Value) (l : List N) (K : Option Addr) (e : Nat) (ok : Nat → Prop) (w : World) (hl : RdNs ok w (.slice K l.length e) 0 l) (hlen : l.length ≤ 16777216) (hcap : l.length ≤ e) (hmost : e ≤ 9223372036854775807) :
    Calls Tryz.prog 51 #[.agg #[.int .i64 18, .string ⟨t.toArray⟩, x0, x1, x2, x3, x4, f, .slice K l.length e, a]] w fun e1 w' => e1 = .returned (.bool (shapeK 18 (l.map N.kind))) ∧ Below w.heap.size w w' := by
  have HL := Lib.hid hl
  clear hl
  go_enter Tryz.func51, Tryz.ntmps51
  go_wp2_with fail
  go_loopw [4, 5] (fun x i wr => ∃ k : Nat, k ≤ l.length ∧ i = .int .i64 (k : Int) ∧ x = .bool ((l.take k).all (fun n => exprK n.kind)) ∧ wr = w.alloc (.cells #[.int .i64 18, .string ⟨t.toArray⟩, x0, x1, x2, x3, x4, f, .slice K l.length e, a] 28)) (fun _ i _ => l.length - (intOf i).toNat)
  case atStart => exact ⟨0, Nat.zero_le _, rfl, rfl, rfl⟩
  case round =>
    obtain ⟨k, hk, rfl, rfl, rfl⟩ := hrel
    by_cases hlt : k < l.length
    · have hlA : (k : Int) < (l.length : Int) := by omega
      have h00 : (0 : Int) ≤ (k : Int) := by omega
      have hst := Lib.hid (all_take_step (l := l) (k := k) hlt (fun n => exprK n.kind))
      obtain ⟨g, off, A', c', B', d', K', e', rfl, _, hk', k0, _⟩ := HL.out.elem k hlt
      have k1 := fun X => bcell (one_al w X) k0
      clear hk' k0
      generalize l[k] = Y at *
      cases hq : (l.take k).all (fun n => exprK n.kind)
      all_goals
        have HQ := Lib.hid hq
        clear hq
        go_wp2_with fail
        refine (rf_IsExpr Y.kind _).mono ?_
        rintro e1 w1 ⟨rfl, rfl⟩
        go_wp2_with fail
        exact ⟨⟨k + 1, by omega, by go_num, by rw [hst.out, HQ.out]; rfl, by trivial⟩, by simp [intOf]; omega⟩
    · have hlA : ¬ (k : Int) < (l.length : Int) := by omega
      have hkk : l.take k = l := List.take_of_length_le (by omega)
      rw [hkk]
      clear hkk
      go_wp2_with fail
      go_ret
      exact ⟨ret_bool (by simp [shapeK, Function.comp_def]), one_al _ _⟩
set_option maxRecDepth 20000 in
set_option maxHeartbeats 4000000 in
theorem kids_19 (t : List UInt8) (x0 x1 x2 x3 x4 f a : Value) (l : List N) (K : Option Addr) (e : Nat) (ok : Nat → Prop) (w : World) (hl : RdNs ok w (.slice K l.length e) 0 l) (hlen : l.length ≤ 16777216) (hcap : l.length ≤ e) (hmost : e ≤ 9223372036854775807) :
    Calls Tryz.prog 51 #[.agg #[.int .i64 19, .string ⟨t.toArray⟩, x0, x1, x2, x3, x4, f, .slice K l.length e, a]] w fun e1 w' => e1 = .returned (.bool (shapeK 19 (l.map N.kind))) ∧ Below w.heap.size w w' := by
  have HL := Lib.hid hl
  clear hl
  go_enter Tryz.func51, Tryz.ntmps51
  go_wp2_with fail
  go_loopw [4, 5] (fun x i wr => ∃ k : Nat, k ≤ l.length ∧ i = .int .i64 (k : Int) ∧ x = .bool ((l.take k).all (fun n => exprK n.kind)) ∧ wr = w.alloc (.cells #[.int .i64 19, .string ⟨t.toArray⟩, x0, x1, x2, x3, x4, f, .slice K l.length e, a] 28)) (fun _ i _ => l.length - (intOf i).toNat)
  case atStart => exact ⟨0, Nat.zero_le _, rfl, rfl, rfl⟩
  case round =>
    obtain ⟨k, hk, rfl, rfl, rfl⟩ := hrel
    by_cases hlt : k < l.length
    · have hlA : (k : Int) < (l.length : Int) := by omega
      have h00 : (0 : Int) ≤ (k : Int) := by omega
      have hst := Lib.hid (all_take_step (l := l) (k := k) hlt (fun n => exprK n.kind))
      obtain ⟨g, off, A', c', B', d', K', e', rfl, _, hk', k0, _⟩ := HL.out.elem k hlt
      have k1 := fun X => bcell (one_al w X) k0
      clear hk' k0
      generalize l[k] = Y at *
      cases hq : (l.take k).all (fun n => exprK n.kind)
      all_goals
        have HQ := Lib.hid hq
        clear hq
        go_wp2_with fail
        refine (rf_IsExpr Y.kind _).mono ?_
        rintro e1 w1 ⟨rfl, rfl⟩
        go_wp2_with fail
        exact ⟨⟨k + 1, by omega, by go_num, by rw [hst.out, HQ.out]; rfl, by trivial⟩, by simp [intOf]; omega⟩
    · have hlA : ¬ (k : Int) < (l.length : Int) := by omega
      have hkk : l.take k = l := List.take_of_length_le (by omega)
      rw [hkk]
      clear hkk
      go_wp2_with fail
      refine (rf_all l 20 K e ok _ (HL.out.below (one_al _ _)) hlen).mono ?_
      rintro e1 w1 ⟨rfl, rfl⟩
      go_wp2_with fail
      go_ret
      exact ⟨ret_bool (by simp [shapeK, Function.comp_def]), one_al _ _⟩
set_option maxRecDepth 20000 in
set_option maxHeartbeats 4000000 in
theorem kids_20 (t : List UInt8) (x0 x1 x2 x3 x4 f a : Value) (l : List N) (K : Option Addr) (e : Nat) (ok : Nat → Prop) (w : World) (hl : RdNs ok w (.slice K l.length e) 0 l) (hlen : l.length ≤ 16777216) (hcap : l.length ≤ e) (hmost : e ≤ 9223372036854775807) :
    Calls Tryz.prog 51 #[.agg #[.int .i64 20, .string ⟨t.toArray⟩, x0, x1, x2, x3, x4, f, .slice K l.length e, a]] w fun e1 w' => e1 = .returned (.bool (shapeK 20 (l.map N.kind))) ∧ Below w.heap.size w w' := by
  have HL := Lib.hid hl
  clear hl
  go_enter Tryz.func51, Tryz.ntmps51
  go_wp2_with fail
  go_loopw [4, 5] (fun x i wr => ∃ k : Nat, k ≤ l.length ∧ i = .int .i64 (k : Int) ∧ x = .bool ((l.take k).all (fun n => exprK n.kind)) ∧ wr = w.alloc (.cells #[.int .i64 20, .string ⟨t.toArray⟩, x0, x1, x2, x3, x4, f, .slice K l.length e, a] 28)) (fun _ i _ => l.length - (intOf i).toNat)
  case atStart => exact ⟨0, Nat.zero_le _, rfl, rfl, rfl⟩
  case round =>
    obtain ⟨k, hk, rfl, rfl, rfl⟩ := hrel
    by_cases hlt : k < l.length
    · have hlA : (k : Int) < (l.length : Int) := by omega
      have h00 : (0 : Int) ≤ (k : Int) := by omega
      have hst := Lib.hid (all_take_step (l := l) (k := k) hlt (fun n => exprK n.kind))
      obtain ⟨g, off, A', c', B', d', K', e', rfl, _, hk', k0, _⟩ := HL.out.elem k hlt
      have k1 := fun X => bcell (one_al w X) k0
      clear hk' k0
      generalize l[k] = Y at *
      cases hq : (l.take k).all (fun n => exprK n.kind)
      all_goals
        have HQ := Lib.hid hq
        clear hq
        go_wp2_with fail
        refine (rf_IsExpr Y.kind _).mono ?_
        rintro e1 w1 ⟨rfl, rfl⟩
        go_wp2_with fail
        exact ⟨⟨k + 1, by omega, by go_num, by rw [hst.out, HQ.out]; rfl, by trivial⟩, by simp [intOf]; omega⟩
    · have hlA : ¬ (k : Int) < (l.length : Int) := by omega
      have hkk : l.take k = l := List.take_of_length_le (by omega)
      rw [hkk]
      clear hkk
      cases hE : l.all (fun n => exprK n.kind)
      all_goals
        have HE := Lib.hid hE
        clear hE
        go_wp2_with fail
        go_ret
        refine ⟨ret_bool ?_, one_al _ _⟩
        rw [Bool.eq_iff_iff]
        simp [shapeK, Function.comp_def, HE.out] <;> omega
set_option maxRecDepth 20000 in
set_option maxHeartbeats 4000000 in
theorem kids_21 (t : List UInt8) (x0 x1 x2 x3 x4 f a : Value) (l : List N) (K : Option Addr) (e : Nat) (ok : Nat → Prop) (w : World) (hl : RdNs ok w (.slice K l.length e) 0 l) (hlen : l.length ≤ 16777216) (hcap : l.length ≤ e) (hmost : e ≤ 9223372036854775807) :
    Calls Tryz.prog 51 #[.agg #[.int .i64 21, .string ⟨t.toArray⟩, x0, x1, x2, x3, x4, f, .slice K l.length e, a]] w fun e1 w' => e1 = .returned (.bool (shapeK 21 (l.map N.kind))) ∧ Below w.heap.size w w' := by
  have HL := Lib.hid hl
  clear hl
  go_enter Tryz.func51, Tryz.ntmps51
  go_wp2_with fail
  go_loopw [4, 5] (fun x i wr => ∃ k : Nat, k ≤ l.length ∧ i = .int .i64 (k : Int) ∧ x = .bool ((l.take k).all (fun n => exprK n.kind)) ∧ wr = w.alloc (.cells #[.int .i64 21, .string ⟨t.toArray⟩, x0, x1, x2, x3, x4, f, .slice K l.length e, a] 28)) (fun _ i _ => l.length - (intOf i).toNat)
  case atStart => exact ⟨0, Nat.zero_le _, rfl, rfl, rfl⟩
  case round =>
    obtain ⟨k, hk, rfl, rfl, rfl⟩ := hrel
    by_cases hlt : k < l.length
    · have hlA : (k : Int) < (l.length : Int) := by omega
      have h00 : (0 : Int) ≤ (k : Int) := by omega
      have hst := Lib.hid (all_take_step (l := l) (k := k) hlt (fun n => exprK n.kind))
      obtain ⟨g, off, A', c', B', d', K', e', rfl, _, hk', k0, _⟩ := HL.out.elem k hlt
      have k1 := fun X => bcell (one_al w X) k0
      clear hk' k0
      generalize l[k] = Y at *
      cases hq : (l.take k).all (fun n => exprK n.kind)
      all_goals
        have HQ := Lib.hid hq
        clear hq
        go_wp2_with fail
        refine (rf_IsExpr Y.kind _).mono ?_
        rintro e1 w1 ⟨rfl, rfl⟩
        go_wp2_with fail
        exact ⟨⟨k + 1, by omega, by go_num, by rw [hst.out, HQ.out]; rfl, by trivial⟩, by simp [intOf]; omega⟩
    · have hlA : ¬ (k : Int) < (l.length : Int) := by omega
      have hkk : l.take k = l := List.take_of_length_le (by omega)
      rw [hkk]
      clear hkk
      cases hE : l.all (fun n => exprK n.kind)
      all_goals
        have HE := Lib.hid hE
        clear hE
        go_wp2_with fail
        go_ret
        refine ⟨ret_bool ?_, one_al _ _⟩
        rw [Bool.eq_iff_iff]
        simp [shapeK, Function.comp_def, HE.out] <;> omega
set_option maxRecDepth 20000 in
set_option maxHeartbeats 4000000 in
theorem kids_22 (t : List UInt8) (x0 x1 x2 x3 x4 f a : Value) (l : List N) (K : Option Addr) (e : Nat) (ok : Nat → Prop) (w : World) (hl : RdNs ok w (.slice K l.length e) 0 l) (hlen : l.length ≤ 16777216) (hcap : l.length ≤ e) (hmost : e ≤ 9223372036854775807) :
    Calls Tryz.prog 51 #[.agg #[.int .i64 22, .string ⟨t.toArray⟩, x0, x1, x2, x3, x4, f, .slice K l.length e, a]] w fun e1 w' => e1 = .returned (.bool (shapeK 22 (l.map N.kind))) ∧ Below w.heap.size w w' := by
  have HL := Lib.hid hl
  clear hl
  go_enter Tryz.func51, Tryz.ntmps51
  go_wp2_with fail
  go_loopw [4, 5] (fun x i wr => ∃ k : Nat, k ≤ l.length ∧ i = .int .i64 (k : Int) ∧ x = .bool ((l.take k).all (fun n => exprK n.kind)) ∧ wr = w.alloc (.cells #[.int .i64 22, .string ⟨t.toArray⟩, x0, x1, x2, x3, x4, f, .slice K l.length e, a] 28)) (fun _ i _ => l.length - (intOf i).toNat)
  case atStart => exact ⟨0, Nat.zero_le _, rfl, rfl, rfl⟩
  case round =>
    obtain ⟨k, hk, rfl, rfl, rfl⟩ := hrel
    by_cases hlt : k < l.length
    · have hlA : (k : Int) < (l.length : Int) := by omega
      have h00 : (0 : Int) ≤ (k : Int) := by omega
      have hst := Lib.hid (all_take_step (l := l) (k := k) hlt (fun n => exprK n.kind))
      obtain ⟨g, off, A', c', B', d', K', e', rfl, _, hk', k0, _⟩ := HL.out.elem k hlt
      have k1 := fun X => bcell (one_al w X) k0
      clear hk' k0
      generalize l[k] = Y at *
      cases hq : (l.take k).all (fun n => exprK n.kind)
      all_goals
        have HQ := Lib.hid hq
        clear hq
        go_wp2_with fail
        refine (rf_IsExpr Y.kind _).mono ?_
        rintro e1 w1 ⟨rfl, rfl⟩
        go_wp2_with fail
        exact ⟨⟨k + 1, by omega, by go_num, by rw [hst.out, HQ.out]; rfl, by trivial⟩, by simp [intOf]; omega⟩
    · have hlA : ¬ (k : Int) < (l.length : Int) := by omega
      have hkk : l.take k = l := List.take_of_length_le (by omega)
      rw [hkk]
      clear hkk
      cases hE : l.all (fun n => exprK n.kind)
      all_goals
        have HE := Lib.hid hE
        clear hE
        go_wp2_with fail
        go_ret
        refine ⟨ret_bool ?_, one_al _ _⟩
        rw [Bool.eq_iff_iff]
        simp [shapeK, Function.comp_def, HE.out] <;> omega
/-- the reference's kids -/
theorem rf_kids (n : N) (v : Value) (ok : Nat → Prop) (w : World) (hv : RdN ok w v n) :
    Calls Tryz.prog 51 #[v] w fun e1 w' => (∃ b, e1 = .returned (.bool b) ∧ (1 ≤ n.kind → n.kind ≤ 22 → b = shapeK n.kind (n.kids.map N.kind))) ∧ Below w.heap.size w w' := by
  obtain ⟨A, c, B, d, K, e, rfl, hn⟩ := hv.form
  have hl := hn.kids
  have h3 := hn.len
  have h4 := hn.cap
  have h5 := hn.most
  cases n with
  | mk k t x f l a =>
  by_cases hk : 1 ≤ k ∧ k ≤ 22
  · have hk : k = 1 ∨ k = 2 ∨ k = 3 ∨ k = 4 ∨ k = 5 ∨ k = 6 ∨ k = 7 ∨ k = 8 ∨ k = 9 ∨ k = 10 ∨ k = 11 ∨ k = 12 ∨ k = 13 ∨ k = 14 ∨ k = 15 ∨ k = 16 ∨ k = 17 ∨ k = 18 ∨ k = 19 ∨ k = 20 ∨ k = 21 ∨ k = 22 := by omega
    rcases hk with rfl | rfl | rfl | rfl | rfl | rfl | rfl | rfl | rfl | rfl | rfl | rfl | rfl | rfl | rfl | rfl | rfl | rfl | rfl | rfl | rfl | rfl
    · exact (kids_1 _ _ _ _ _ _ _ _ l K e ok w hl h3 h4 h5).mono fun e1 w1 h => ⟨⟨_, h.1, fun _ _ => rfl⟩, h.2⟩
    · exact (kids_2 _ _ _ _ _ _ _ _ l K e ok w hl h3 h4 h5).mono fun e1 w1 h => ⟨⟨_, h.1, fun _ _ => rfl⟩, h.2⟩
    · exact (kids_3 _ _ _ _ _ _ _ _ l K e ok w hl h3 h4 h5).mono fun e1 w1 h => ⟨⟨_, h.1, fun _ _ => rfl⟩, h.2⟩
    · exact (kids_4 _ _ _ _ _ _ _ _ l K e ok w hl h3 h4 h5).mono fun e1 w1 h => ⟨⟨_, h.1, fun _ _ => rfl⟩, h.2⟩
    · exact (kids_5 _ _ _ _ _ _ _ _ l K e ok w hl h3 h4 h5).mono fun e1 w1 h => ⟨⟨_, h.1, fun _ _ => rfl⟩, h.2⟩
    · exact (kids_6 _ _ _ _ _ _ _ _ l K e ok w hl h3 h4 h5).mono fun e1 w1 h => ⟨⟨_, h.1, fun _ _ => rfl⟩, h.2⟩
    · exact (kids_7 _ _ _ _ _ _ _ _ l K e ok w hl h3 h4 h5).mono fun e1 w1 h => ⟨⟨_, h.1, fun _ _ => rfl⟩, h.2⟩
    · exact (kids_8 _ _ _ _ _ _ _ _ l K e ok w hl h3 h4 h5).mono fun e1 w1 h => ⟨⟨_, h.1, fun _ _ => rfl⟩, h.2⟩
    · exact (kids_9 _ _ _ _ _ _ _ _ l K e ok w hl h3 h4 h5).mono fun e1 w1 h => ⟨⟨_, h.1, fun _ _ => rfl⟩, h.2⟩
    · exact (kids_10 _ _ _ _ _ _ _ _ l K e ok w hl h3 h4 h5).mono fun e1 w1 h => ⟨⟨_, h.1, fun _ _ => rfl⟩, h.2⟩
    · exact (kids_11 _ _ _ _ _ _ _ _ l K e ok w hl h3 h4 h5).mono fun e1 w1 h => ⟨⟨_, h.1, fun _ _ => rfl⟩, h.2⟩
    · exact (kids_12 _ _ _ _ _ _ _ _ l K e ok w hl h3 h4 h5).mono fun e1 w1 h => ⟨⟨_, h.1, fun _ _ => rfl⟩, h.2⟩
    · exact (kids_13 _ _ _ _ _ _ _ _ l K e ok w hl h3 h4 h5).mono fun e1 w1 h => ⟨⟨_, h.1, fun _ _ => rfl⟩, h.2⟩
    · exact (kids_14 _ _ _ _ _ _ _ _ l K e ok w hl h3 h4 h5).mono fun e1 w1 h => ⟨⟨_, h.1, fun _ _ => rfl⟩, h.2⟩
    · exact (kids_15 _ _ _ _ _ _ _ _ l K e ok w hl h3 h4 h5).mono fun e1 w1 h => ⟨⟨_, h.1, fun _ _ => rfl⟩, h.2⟩
    · exact (kids_16 _ _ _ _ _ _ _ _ l K e ok w hl h3 h4 h5).mono fun e1 w1 h => ⟨⟨_, h.1, fun _ _ => rfl⟩, h.2⟩
    · exact (kids_17 _ _ _ _ _ _ _ _ l K e ok w hl h3 h4 h5).mono fun e1 w1 h => ⟨⟨_, h.1, fun _ _ => rfl⟩, h.2⟩
    · exact (kids_18 _ _ _ _ _ _ _ _ l K e ok w hl h3 h4 h5).mono fun e1 w1 h => ⟨⟨_, h.1, fun _ _ => rfl⟩, h.2⟩
    · exact (kids_19 _ _ _ _ _ _ _ _ l K e ok w hl h3 h4 h5).mono fun e1 w1 h => ⟨⟨_, h.1, fun _ _ => rfl⟩, h.2⟩
    · exact (kids_20 _ _ _ _ _ _ _ _ l K e ok w hl h3 h4 h5).mono fun e1 w1 h => ⟨⟨_, h.1, fun _ _ => rfl⟩, h.2⟩
    · exact (kids_21 _ _ _ _ _ _ _ _ l K e ok w hl h3 h4 h5).mono fun e1 w1 h => ⟨⟨_, h.1, fun _ _ => rfl⟩, h.2⟩
    · exact (kids_22 _ _ _ _ _ _ _ _ l K e ok w hl h3 h4 h5).mono fun e1 w1 h => ⟨⟨_, h.1, fun _ _ => rfl⟩, h.2⟩
  · exact (kids_0 _ _ _ _ _ _ _ _ k (by omega) l K e ok w hl h3 h4 h5).mono fun e1 w1 h => ⟨⟨_, h.1.choose_spec, fun h1 h2 => absurd ⟨h1, h2⟩ hk⟩, h.2⟩
end Go.Proofs.YthlfeiiolafonaaGreatDoor
