/- Contract of the reference's plain, kind by kind. Printed by gen_plain.py. -/
import Derived.Test.YthlfeiiolafonaaGreatDoorPrintRefLeaf
import Derived.Test.YthlfeiiolafonaaGreatDoorLexIsName
import Derived.Test.YthlfeiiolafonaaGreatDoorPrintSaid
set_option linter.unusedVariables false
set_option linter.unusedSimpArgs false
namespace Go.Proofs.YthlfeiiolafonaaGreatDoor
open Go.RowKit Go.IntWalk

theorem unit_right (x : V) : (decide (x.kind = 0) && rightB x) = (decide (x.kind = 0) && (decide (x.num = 0) && (decide (x.str = []) && (decide (x.parts.length = 0) && decide (x.keys.length = 0))))) := by
  cases x with
  | mk k n s l ks =>
  simp only [V.kind, V.num, V.str, V.parts, V.keys]
  by_cases hk : k = 0
  · subst hk
    simp only [decide_true, Bool.true_and]
    rw [Bool.eq_iff_iff]
    constructor
    · intro h
      unfold rightB at h
      rw [wS_eq] at h
      split at h
      · rename_i hc
        have hp := hc.1
        simp [V.kind, V.num, V.str, V.parts, V.keys, plainS] at hp
        simp [hp]
      · simp at h
    · intro h
      simp only [Bool.and_eq_true] at h
      have e1 := of_decide_eq_true h.1
      have e2 := of_decide_eq_true h.2.1
      have e3 := List.length_eq_zero_iff.1 (of_decide_eq_true h.2.2.1)
      have e4 := List.length_eq_zero_iff.1 (of_decide_eq_true h.2.2.2)
      subst e1 e2 e3 e4
      simp [rightB, wS, wL, plainS]
  · simp [hk]
theorem saidVal_unit (k : Int) (hk : k ≠ 13) (x : V) : saidVal k x = (decide (x.kind = 0) && (decide (x.num = 0) && (decide (x.str = []) && (decide (x.parts.length = 0) && decide (x.keys.length = 0))))) := by
  unfold saidVal
  rw [if_neg hk]
  exact unit_right x

set_option maxRecDepth 20000 in
set_option maxHeartbeats 4000000 in
theorem plain_1 (t : List UInt8) (x : V) (A B K : Option Addr) (c d m e : Nat) (f : Bool) (a : Int) (ok : Nat → Prop) (w : World) (hx : RdV ok w (valV x A c B d) x) (htl : t.length ≤ 16777216) :
    Calls Tryz.prog 50 #[.agg #[.int .i64 1, .string ⟨t.toArray⟩, .int .i64 x.kind, .int .i64 x.num, .string ⟨x.str.toArray⟩, .slice A x.parts.length c, .slice B x.keys.length d, .bool f, .slice K m e, .int .i64 a]] w fun e1 w' => e1 = .returned (.bool (saidText 1 t && (saidVal 1 x && (!f || decide ((1 : Int) = 2))))) ∧ Below w.heap.size w w' := by
  have HV := Lib.hid hx
  have HU := Lib.hid (unit_right x)
  clear hx
  go_enter Tryz.func50, Tryz.ntmps50
  all_goals go_wp2_with fail
  all_goals go_ret
  all_goals (refine ⟨ret_bool ?_, one_al _ _⟩; rw [saidVal_unit 1 (by decide)]; clear HV HU; simp only [saidText]; simp_all <;> first | omega | (rw [Bool.eq_iff_iff]; simp [← List.length_eq_zero_iff]; done) | (rw [Bool.eq_iff_iff]; simp [← List.length_eq_zero_iff]; omega))
set_option maxRecDepth 20000 in
set_option maxHeartbeats 4000000 in
theorem plain_2 (t : List UInt8) (x : V) (A B K : Option Addr) (c d m e : Nat) (f : Bool) (a : Int) (ok : Nat → Prop) (w : World) (hx : RdV ok w (valV x A c B d) x) (htl : t.length ≤ 16777216) :
    Calls Tryz.prog 50 #[.agg #[.int .i64 2, .string ⟨t.toArray⟩, .int .i64 x.kind, .int .i64 x.num, .string ⟨x.str.toArray⟩, .slice A x.parts.length c, .slice B x.keys.length d, .bool f, .slice K m e, .int .i64 a]] w fun e1 w' => e1 = .returned (.bool (saidText 2 t && (saidVal 2 x && (!f || decide ((2 : Int) = 2))))) ∧ Below w.heap.size w w' := by
  have HV := Lib.hid hx
  have HU := Lib.hid (unit_right x)
  clear hx
  go_enter Tryz.func50, Tryz.ntmps50
  go_wp2_with fail
  refine (ref_IsName ⟨t.toArray⟩ _).mono ?_
  rintro e1 w1 ⟨rfl, hb⟩
  have HB := Lib.hid hb
  obtain ⟨b0, b1, b2, b3, b4, b5, b6, b7, b8, b9⟩ := box10 hb
  clear hb
  cases hnm : isNameB t
  all_goals have HNM := Lib.hid hnm
  all_goals clear hnm
  all_goals go_wp2_with fail
  all_goals go_ret
  all_goals (refine ⟨ret_bool ?_, bthen (one_al _ _) HB.out⟩; have hnm := HNM.out; clear HNM; rw [saidVal_unit 2 (by decide)]; clear HV HU; simp only [saidText]; simp_all <;> first | omega | (rw [Bool.eq_iff_iff]; simp [← List.length_eq_zero_iff]; done) | (rw [Bool.eq_iff_iff]; simp [← List.length_eq_zero_iff]; omega))
set_option maxRecDepth 20000 in
set_option maxHeartbeats 4000000 in
theorem plain_3 (t : List UInt8) (x : V) (A B K : Option Addr) (c d m e : Nat) (f : Bool) (a : Int) (ok : Nat → Prop) (w : World) (hx : RdV ok w (valV x A c B d) x) (htl : t.length ≤ 16777216) :
    Calls Tryz.prog 50 #[.agg #[.int .i64 3, .string ⟨t.toArray⟩, .int .i64 x.kind, .int .i64 x.num, .string ⟨x.str.toArray⟩, .slice A x.parts.length c, .slice B x.keys.length d, .bool f, .slice K m e, .int .i64 a]] w fun e1 w' => e1 = .returned (.bool (saidText 3 t && (saidVal 3 x && (!f || decide ((3 : Int) = 2))))) ∧ Below w.heap.size w w' := by
  have HV := Lib.hid hx
  have HU := Lib.hid (unit_right x)
  clear hx
  go_enter Tryz.func50, Tryz.ntmps50
  go_wp2_with fail
  refine (ref_IsName ⟨t.toArray⟩ _).mono ?_
  rintro e1 w1 ⟨rfl, hb⟩
  have HB := Lib.hid hb
  obtain ⟨b0, b1, b2, b3, b4, b5, b6, b7, b8, b9⟩ := box10 hb
  clear hb
  cases hnm : isNameB t
  all_goals have HNM := Lib.hid hnm
  all_goals clear hnm
  all_goals go_wp2_with fail
  all_goals go_ret
  all_goals (refine ⟨ret_bool ?_, bthen (one_al _ _) HB.out⟩; have hnm := HNM.out; clear HNM; rw [saidVal_unit 3 (by decide)]; clear HV HU; simp only [saidText]; simp_all <;> first | omega | (rw [Bool.eq_iff_iff]; simp [← List.length_eq_zero_iff]; done) | (rw [Bool.eq_iff_iff]; simp [← List.length_eq_zero_iff]; omega))
set_option maxRecDepth 20000 in
set_option maxHeartbeats 4000000 in
theorem plain_4 (t : List UInt8) (x : V) (A B K : Option Addr) (c d m e : Nat) (f : Bool) (a : Int) (ok : Nat → Prop) (w : World) (hx : RdV ok w (valV x A c B d) x) (htl : t.length ≤ 16777216) :
    Calls Tryz.prog 50 #[.agg #[.int .i64 4, .string ⟨t.toArray⟩, .int .i64 x.kind, .int .i64 x.num, .string ⟨x.str.toArray⟩, .slice A x.parts.length c, .slice B x.keys.length d, .bool f, .slice K m e, .int .i64 a]] w fun e1 w' => e1 = .returned (.bool (saidText 4 t && (saidVal 4 x && (!f || decide ((4 : Int) = 2))))) ∧ Below w.heap.size w w' := by
  have HV := Lib.hid hx
  have HU := Lib.hid (unit_right x)
  clear hx
  go_enter Tryz.func50, Tryz.ntmps50
  all_goals go_wp2_with fail
  all_goals go_ret
  all_goals (refine ⟨ret_bool ?_, one_al _ _⟩; rw [saidVal_unit 4 (by decide)]; clear HV HU; simp only [saidText]; simp_all <;> first | omega | (rw [Bool.eq_iff_iff]; simp [← List.length_eq_zero_iff]; done) | (rw [Bool.eq_iff_iff]; simp [← List.length_eq_zero_iff]; omega))
set_option maxRecDepth 20000 in
set_option maxHeartbeats 4000000 in
theorem plain_5 (t : List UInt8) (x : V) (A B K : Option Addr) (c d m e : Nat) (f : Bool) (a : Int) (ok : Nat → Prop) (w : World) (hx : RdV ok w (valV x A c B d) x) (htl : t.length ≤ 16777216) :
    Calls Tryz.prog 50 #[.agg #[.int .i64 5, .string ⟨t.toArray⟩, .int .i64 x.kind, .int .i64 x.num, .string ⟨x.str.toArray⟩, .slice A x.parts.length c, .slice B x.keys.length d, .bool f, .slice K m e, .int .i64 a]] w fun e1 w' => e1 = .returned (.bool (saidText 5 t && (saidVal 5 x && (!f || decide ((5 : Int) = 2))))) ∧ Below w.heap.size w w' := by
  have HV := Lib.hid hx
  have HU := Lib.hid (unit_right x)
  clear hx
  go_enter Tryz.func50, Tryz.ntmps50
  go_wp2_with fail
  refine (ref_IsName ⟨t.toArray⟩ _).mono ?_
  rintro e1 w1 ⟨rfl, hb⟩
  have HB := Lib.hid hb
  obtain ⟨b0, b1, b2, b3, b4, b5, b6, b7, b8, b9⟩ := box10 hb
  clear hb
  cases hnm : isNameB t
  all_goals have HNM := Lib.hid hnm
  all_goals clear hnm
  all_goals go_wp2_with fail
  all_goals go_ret
  all_goals (refine ⟨ret_bool ?_, bthen (one_al _ _) HB.out⟩; have hnm := HNM.out; clear HNM; rw [saidVal_unit 5 (by decide)]; clear HV HU; simp only [saidText]; simp_all <;> first | omega | (rw [Bool.eq_iff_iff]; simp [← List.length_eq_zero_iff]; done) | (rw [Bool.eq_iff_iff]; simp [← List.length_eq_zero_iff]; omega))
set_option maxRecDepth 20000 in
set_option maxHeartbeats 4000000 in
theorem plain_6 (t : List UInt8) (x : V) (A B K : Option Addr) (c d m e : Nat) (f : Bool) (a : Int) (ok : Nat → Prop) (w : World) (hx : RdV ok w (valV x A c B d) x) (htl : t.length ≤ 16777216) :
    Calls Tryz.prog 50 #[.agg #[.int .i64 6, .string ⟨t.toArray⟩, .int .i64 x.kind, .int .i64 x.num, .string ⟨x.str.toArray⟩, .slice A x.parts.length c, .slice B x.keys.length d, .bool f, .slice K m e, .int .i64 a]] w fun e1 w' => e1 = .returned (.bool (saidText 6 t && (saidVal 6 x && (!f || decide ((6 : Int) = 2))))) ∧ Below w.heap.size w w' := by
  have HV := Lib.hid hx
  have HU := Lib.hid (unit_right x)
  clear hx
  go_enter Tryz.func50, Tryz.ntmps50
  go_wp2_with fail
  refine (ref_IsName ⟨t.toArray⟩ _).mono ?_
  rintro e1 w1 ⟨rfl, hb⟩
  have HB := Lib.hid hb
  obtain ⟨b0, b1, b2, b3, b4, b5, b6, b7, b8, b9⟩ := box10 hb
  clear hb
  cases hnm : isNameB t
  all_goals have HNM := Lib.hid hnm
  all_goals clear hnm
  all_goals go_wp2_with fail
  all_goals go_ret
  all_goals (refine ⟨ret_bool ?_, bthen (one_al _ _) HB.out⟩; have hnm := HNM.out; clear HNM; rw [saidVal_unit 6 (by decide)]; clear HV HU; simp only [saidText]; simp_all <;> first | omega | (rw [Bool.eq_iff_iff]; simp [← List.length_eq_zero_iff]; done) | (rw [Bool.eq_iff_iff]; simp [← List.length_eq_zero_iff]; omega))
set_option maxRecDepth 20000 in
set_option maxHeartbeats 4000000 in
theorem plain_7 (t : List UInt8) (x : V) (A B K : Option Addr) (c d m e : Nat) (f : Bool) (a : Int) (ok : Nat → Prop) (w : World) (hx : RdV ok w (valV x A c B d) x) (htl : t.length ≤ 16777216) :
    Calls Tryz.prog 50 #[.agg #[.int .i64 7, .string ⟨t.toArray⟩, .int .i64 x.kind, .int .i64 x.num, .string ⟨x.str.toArray⟩, .slice A x.parts.length c, .slice B x.keys.length d, .bool f, .slice K m e, .int .i64 a]] w fun e1 w' => e1 = .returned (.bool (saidText 7 t && (saidVal 7 x && (!f || decide ((7 : Int) = 2))))) ∧ Below w.heap.size w w' := by
  have HV := Lib.hid hx
  have HU := Lib.hid (unit_right x)
  clear hx
  go_enter Tryz.func50, Tryz.ntmps50
  all_goals go_wp2_with fail
  all_goals go_ret
  all_goals (refine ⟨ret_bool ?_, one_al _ _⟩; rw [saidVal_unit 7 (by decide)]; clear HV HU; simp only [saidText]; simp_all <;> first | omega | (rw [Bool.eq_iff_iff]; simp [← List.length_eq_zero_iff]; done) | (rw [Bool.eq_iff_iff]; simp [← List.length_eq_zero_iff]; omega))
set_option maxRecDepth 20000 in
set_option maxHeartbeats 4000000 in
theorem plain_8 (t : List UInt8) (x : V) (A B K : Option Addr) (c d m e : Nat) (f : Bool) (a : Int) (ok : Nat → Prop) (w : World) (hx : RdV ok w (valV x A c B d) x) (htl : t.length ≤ 16777216) :
    Calls Tryz.prog 50 #[.agg #[.int .i64 8, .string ⟨t.toArray⟩, .int .i64 x.kind, .int .i64 x.num, .string ⟨x.str.toArray⟩, .slice A x.parts.length c, .slice B x.keys.length d, .bool f, .slice K m e, .int .i64 a]] w fun e1 w' => e1 = .returned (.bool (saidText 8 t && (saidVal 8 x && (!f || decide ((8 : Int) = 2))))) ∧ Below w.heap.size w w' := by
  have HV := Lib.hid hx
  have HU := Lib.hid (unit_right x)
  clear hx
  go_enter Tryz.func50, Tryz.ntmps50
  all_goals go_wp2_with fail
  all_goals go_ret
  all_goals (refine ⟨ret_bool ?_, one_al _ _⟩; rw [saidVal_unit 8 (by decide)]; clear HV HU; simp only [saidText]; simp_all <;> first | omega | (rw [Bool.eq_iff_iff]; simp [← List.length_eq_zero_iff]; done) | (rw [Bool.eq_iff_iff]; simp [← List.length_eq_zero_iff]; omega))
set_option maxRecDepth 20000 in
set_option maxHeartbeats 4000000 in
theorem plain_9 (t : List UInt8) (x : V) (A B K : Option Addr) (c d m e : Nat) (f : Bool) (a : Int) (ok : Nat → Prop) (w : World) (hx : RdV ok w (valV x A c B d) x) (htl : t.length ≤ 16777216) :
    Calls Tryz.prog 50 #[.agg #[.int .i64 9, .string ⟨t.toArray⟩, .int .i64 x.kind, .int .i64 x.num, .string ⟨x.str.toArray⟩, .slice A x.parts.length c, .slice B x.keys.length d, .bool f, .slice K m e, .int .i64 a]] w fun e1 w' => e1 = .returned (.bool (saidText 9 t && (saidVal 9 x && (!f || decide ((9 : Int) = 2))))) ∧ Below w.heap.size w w' := by
  have HV := Lib.hid hx
  have HU := Lib.hid (unit_right x)
  clear hx
  go_enter Tryz.func50, Tryz.ntmps50
  all_goals go_wp2_with fail
  all_goals go_ret
  all_goals (refine ⟨ret_bool ?_, one_al _ _⟩; rw [saidVal_unit 9 (by decide)]; clear HV HU; simp only [saidText]; simp_all <;> first | omega | (rw [Bool.eq_iff_iff]; simp [← List.length_eq_zero_iff]; done) | (rw [Bool.eq_iff_iff]; simp [← List.length_eq_zero_iff]; omega))
set_option maxRecDepth 20000 in
set_option maxHeartbeats 4000000 in
theorem plain_10 (t : List UInt8) (x : V) (A B K : Option Addr) (c d m e : Nat) (f : Bool) (a : Int) (ok : Nat → Prop) (w : World) (hx : RdV ok w (valV x A c B d) x) (htl : t.length ≤ 16777216) :
    Calls Tryz.prog 50 #[.agg #[.int .i64 10, .string ⟨t.toArray⟩, .int .i64 x.kind, .int .i64 x.num, .string ⟨x.str.toArray⟩, .slice A x.parts.length c, .slice B x.keys.length d, .bool f, .slice K m e, .int .i64 a]] w fun e1 w' => e1 = .returned (.bool (saidText 10 t && (saidVal 10 x && (!f || decide ((10 : Int) = 2))))) ∧ Below w.heap.size w w' := by
  have HV := Lib.hid hx
  have HU := Lib.hid (unit_right x)
  clear hx
  go_enter Tryz.func50, Tryz.ntmps50
  all_goals go_wp2_with fail
  all_goals go_ret
  all_goals (refine ⟨ret_bool ?_, one_al _ _⟩; rw [saidVal_unit 10 (by decide)]; clear HV HU; simp only [saidText]; simp_all <;> first | omega | (rw [Bool.eq_iff_iff]; simp [← List.length_eq_zero_iff]; done) | (rw [Bool.eq_iff_iff]; simp [← List.length_eq_zero_iff]; omega))
set_option maxRecDepth 20000 in
set_option maxHeartbeats 4000000 in
theorem plain_11 (t : List UInt8) (x : V) (A B K : Option Addr) (c d m e : Nat) (f : Bool) (a : Int) (ok : Nat → Prop) (w : World) (hx : RdV ok w (valV x A c B d) x) (htl : t.length ≤ 16777216) :
    Calls Tryz.prog 50 #[.agg #[.int .i64 11, .string ⟨t.toArray⟩, .int .i64 x.kind, .int .i64 x.num, .string ⟨x.str.toArray⟩, .slice A x.parts.length c, .slice B x.keys.length d, .bool f, .slice K m e, .int .i64 a]] w fun e1 w' => e1 = .returned (.bool (saidText 11 t && (saidVal 11 x && (!f || decide ((11 : Int) = 2))))) ∧ Below w.heap.size w w' := by
  have HV := Lib.hid hx
  have HU := Lib.hid (unit_right x)
  clear hx
  go_enter Tryz.func50, Tryz.ntmps50
  all_goals go_wp2_with fail
  all_goals go_ret
  all_goals (refine ⟨ret_bool ?_, one_al _ _⟩; rw [saidVal_unit 11 (by decide)]; clear HV HU; simp only [saidText]; simp_all <;> first | omega | (rw [Bool.eq_iff_iff]; simp [← List.length_eq_zero_iff]; done) | (rw [Bool.eq_iff_iff]; simp [← List.length_eq_zero_iff]; omega))
set_option maxRecDepth 20000 in
set_option maxHeartbeats 4000000 in
theorem plain_12 (t : List UInt8) (x : V) (A B K : Option Addr) (c d m e : Nat) (f : Bool) (a : Int) (ok : Nat → Prop) (w : World) (hx : RdV ok w (valV x A c B d) x) (htl : t.length ≤ 16777216) :
    Calls Tryz.prog 50 #[.agg #[.int .i64 12, .string ⟨t.toArray⟩, .int .i64 x.kind, .int .i64 x.num, .string ⟨x.str.toArray⟩, .slice A x.parts.length c, .slice B x.keys.length d, .bool f, .slice K m e, .int .i64 a]] w fun e1 w' => e1 = .returned (.bool (saidText 12 t && (saidVal 12 x && (!f || decide ((12 : Int) = 2))))) ∧ Below w.heap.size w w' := by
  have HV := Lib.hid hx
  have HU := Lib.hid (unit_right x)
  clear hx
  go_enter Tryz.func50, Tryz.ntmps50
  all_goals go_wp2_with fail
  all_goals go_ret
  all_goals (refine ⟨ret_bool ?_, one_al _ _⟩; rw [saidVal_unit 12 (by decide)]; clear HV HU; simp only [saidText]; simp_all <;> first | omega | (rw [Bool.eq_iff_iff]; simp [← List.length_eq_zero_iff]; done) | (rw [Bool.eq_iff_iff]; simp [← List.length_eq_zero_iff]; omega))
set_option maxRecDepth 20000 in
set_option maxHeartbeats 4000000 in
theorem plain_13 (t : List UInt8) (x : V) (A B K : Option Addr) (c d m e : Nat) (f : Bool) (a : Int) (ok : Nat → Prop) (w : World) (hx : RdV ok w (valV x A c B d) x) (htl : t.length ≤ 16777216) :
    Calls Tryz.prog 50 #[.agg #[.int .i64 13, .string ⟨t.toArray⟩, .int .i64 x.kind, .int .i64 x.num, .string ⟨x.str.toArray⟩, .slice A x.parts.length c, .slice B x.keys.length d, .bool f, .slice K m e, .int .i64 a]] w fun e1 w' => e1 = .returned (.bool (saidText 13 t && (saidVal 13 x && (!f || decide ((13 : Int) = 2))))) ∧ Below w.heap.size w w' := by
  have HV := Lib.hid hx
  have HU := Lib.hid (unit_right x)
  clear hx
  have HR := Lib.hid (fun (W : World) (vv : Value) (he : vv = valV x A c B d) (hv : RdV ok W (valV x A c B d) x) => he ▸ ref_Right x (valV x A c B d) ok W hv)
  go_enter Tryz.func50, Tryz.ntmps50
  all_goals go_wp2_with (first | (go_at_call 85; refine (HR.out _ _ (by first | rfl | simp_all) (HV.out.below (one_al _ _))).mono ?_; rintro e2 w2 ⟨rfl, hb⟩; have HB2 := Lib.hid hb; obtain ⟨b0, b1, b2, b3, b4, b5, b6, b7, b8, b9⟩ := box10 hb; clear hb) | fail)
  all_goals (try go_wp2_with fail)
  all_goals go_ret
  all_goals (refine ⟨ret_bool ?_, bthen (one_al _ _) HB2.out⟩; clear HV HU HR; simp only [saidText, saidVal]; simp_all <;> first | omega | (rw [Bool.eq_iff_iff]; simp [← List.length_eq_zero_iff]; done) | (rw [Bool.eq_iff_iff]; simp [← List.length_eq_zero_iff]; omega))
set_option maxRecDepth 20000 in
set_option maxHeartbeats 4000000 in
theorem plain_14 (t : List UInt8) (x : V) (A B K : Option Addr) (c d m e : Nat) (f : Bool) (a : Int) (ok : Nat → Prop) (w : World) (hx : RdV ok w (valV x A c B d) x) (htl : t.length ≤ 16777216) :
    Calls Tryz.prog 50 #[.agg #[.int .i64 14, .string ⟨t.toArray⟩, .int .i64 x.kind, .int .i64 x.num, .string ⟨x.str.toArray⟩, .slice A x.parts.length c, .slice B x.keys.length d, .bool f, .slice K m e, .int .i64 a]] w fun e1 w' => e1 = .returned (.bool (saidText 14 t && (saidVal 14 x && (!f || decide ((14 : Int) = 2))))) ∧ Below w.heap.size w w' := by
  have HV := Lib.hid hx
  have HU := Lib.hid (unit_right x)
  clear hx
  go_enter Tryz.func50, Tryz.ntmps50
  go_wp2_with fail
  refine (ref_IsName ⟨t.toArray⟩ _).mono ?_
  rintro e1 w1 ⟨rfl, hb⟩
  have HB := Lib.hid hb
  obtain ⟨b0, b1, b2, b3, b4, b5, b6, b7, b8, b9⟩ := box10 hb
  clear hb
  cases hnm : isNameB t
  all_goals have HNM := Lib.hid hnm
  all_goals clear hnm
  all_goals go_wp2_with fail
  all_goals go_ret
  all_goals (refine ⟨ret_bool ?_, bthen (one_al _ _) HB.out⟩; have hnm := HNM.out; clear HNM; rw [saidVal_unit 14 (by decide)]; clear HV HU; simp only [saidText]; simp_all <;> first | omega | (rw [Bool.eq_iff_iff]; simp [← List.length_eq_zero_iff]; done) | (rw [Bool.eq_iff_iff]; simp [← List.length_eq_zero_iff]; omega))
set_option maxRecDepth 20000 in
set_option maxHeartbeats 4000000 in
theorem plain_15 (t : List UInt8) (x : V) (A B K : Option Addr) (c d m e : Nat) (f : Bool) (a : Int) (ok : Nat → Prop) (w : World) (hx : RdV ok w (valV x A c B d) x) (htl : t.length ≤ 16777216) :
    Calls Tryz.prog 50 #[.agg #[.int .i64 15, .string ⟨t.toArray⟩, .int .i64 x.kind, .int .i64 x.num, .string ⟨x.str.toArray⟩, .slice A x.parts.length c, .slice B x.keys.length d, .bool f, .slice K m e, .int .i64 a]] w fun e1 w' => e1 = .returned (.bool (saidText 15 t && (saidVal 15 x && (!f || decide ((15 : Int) = 2))))) ∧ Below w.heap.size w w' := by
  have HV := Lib.hid hx
  have HU := Lib.hid (unit_right x)
  clear hx
  go_enter Tryz.func50, Tryz.ntmps50
  go_wp2_with fail
  refine (ref_IsName ⟨t.toArray⟩ _).mono ?_
  rintro e1 w1 ⟨rfl, hb⟩
  have HB := Lib.hid hb
  obtain ⟨b0, b1, b2, b3, b4, b5, b6, b7, b8, b9⟩ := box10 hb
  clear hb
  cases hnm : isNameB t
  all_goals have HNM := Lib.hid hnm
  all_goals clear hnm
  all_goals go_wp2_with fail
  all_goals go_ret
  all_goals (refine ⟨ret_bool ?_, bthen (one_al _ _) HB.out⟩; have hnm := HNM.out; clear HNM; rw [saidVal_unit 15 (by decide)]; clear HV HU; simp only [saidText]; simp_all <;> first | omega | (rw [Bool.eq_iff_iff]; simp [← List.length_eq_zero_iff]; done) | (rw [Bool.eq_iff_iff]; simp [← List.length_eq_zero_iff]; omega))
set_option maxRecDepth 20000 in
set_option maxHeartbeats 4000000 in
theorem plain_16 (t : List UInt8) (x : V) (A B K : Option Addr) (c d m e : Nat) (f : Bool) (a : Int) (ok : Nat → Prop) (w : World) (hx : RdV ok w (valV x A c B d) x) (htl : t.length ≤ 16777216) :
    Calls Tryz.prog 50 #[.agg #[.int .i64 16, .string ⟨t.toArray⟩, .int .i64 x.kind, .int .i64 x.num, .string ⟨x.str.toArray⟩, .slice A x.parts.length c, .slice B x.keys.length d, .bool f, .slice K m e, .int .i64 a]] w fun e1 w' => e1 = .returned (.bool (saidText 16 t && (saidVal 16 x && (!f || decide ((16 : Int) = 2))))) ∧ Below w.heap.size w w' := by
  have HV := Lib.hid hx
  have HU := Lib.hid (unit_right x)
  clear hx
  go_enter Tryz.func50, Tryz.ntmps50
  all_goals go_wp2_with fail
  all_goals go_ret
  all_goals (refine ⟨ret_bool ?_, one_al _ _⟩; rw [saidVal_unit 16 (by decide)]; clear HV HU; simp only [saidText]; simp_all <;> first | omega | (rw [Bool.eq_iff_iff]; simp [← List.length_eq_zero_iff]; done) | (rw [Bool.eq_iff_iff]; simp [← List.length_eq_zero_iff]; omega))
set_option maxRecDepth 20000 in
set_option maxHeartbeats 4000000 in
theorem plain_17 (t : List UInt8) (x : V) (A B K : Option Addr) (c d m e : Nat) (f : Bool) (a : Int) (ok : Nat → Prop) (w : World) (hx : RdV ok w (valV x A c B d) x) (htl : t.length ≤ 16777216) :
    Calls Tryz.prog 50 #[.agg #[.int .i64 17, .string ⟨t.toArray⟩, .int .i64 x.kind, .int .i64 x.num, .string ⟨x.str.toArray⟩, .slice A x.parts.length c, .slice B x.keys.length d, .bool f, .slice K m e, .int .i64 a]] w fun e1 w' => e1 = .returned (.bool (saidText 17 t && (saidVal 17 x && (!f || decide ((17 : Int) = 2))))) ∧ Below w.heap.size w w' := by
  have HV := Lib.hid hx
  have HU := Lib.hid (unit_right x)
  clear hx
  go_enter Tryz.func50, Tryz.ntmps50
  go_wp2_with fail
  refine (rf_Binds t _).mono ?_
  rintro e1 w1 ⟨rfl, hb⟩
  have HB := Lib.hid hb
  obtain ⟨b0, b1, b2, b3, b4, b5, b6, b7, b8, b9⟩ := box10 hb
  clear hb
  all_goals go_wp2_with fail
  all_goals go_ret
  all_goals (refine ⟨ret_bool ?_, bthen (one_al _ _) HB.out⟩; rw [saidVal_unit 17 (by decide)]; clear HV HU; simp only [saidText]; simp_all <;> first | omega | (rw [Bool.eq_iff_iff]; simp [← List.length_eq_zero_iff]; done) | (rw [Bool.eq_iff_iff]; simp [← List.length_eq_zero_iff]; omega))
set_option maxRecDepth 20000 in
set_option maxHeartbeats 4000000 in
theorem plain_18 (t : List UInt8) (x : V) (A B K : Option Addr) (c d m e : Nat) (f : Bool) (a : Int) (ok : Nat → Prop) (w : World) (hx : RdV ok w (valV x A c B d) x) (htl : t.length ≤ 16777216) :
    Calls Tryz.prog 50 #[.agg #[.int .i64 18, .string ⟨t.toArray⟩, .int .i64 x.kind, .int .i64 x.num, .string ⟨x.str.toArray⟩, .slice A x.parts.length c, .slice B x.keys.length d, .bool f, .slice K m e, .int .i64 a]] w fun e1 w' => e1 = .returned (.bool (saidText 18 t && (saidVal 18 x && (!f || decide ((18 : Int) = 2))))) ∧ Below w.heap.size w w' := by
  have HV := Lib.hid hx
  have HU := Lib.hid (unit_right x)
  clear hx
  go_enter Tryz.func50, Tryz.ntmps50
  all_goals go_wp2_with fail
  all_goals go_ret
  all_goals (refine ⟨ret_bool ?_, one_al _ _⟩; rw [saidVal_unit 18 (by decide)]; clear HV HU; simp only [saidText]; simp_all <;> first | omega | (rw [Bool.eq_iff_iff]; simp [← List.length_eq_zero_iff]; done) | (rw [Bool.eq_iff_iff]; simp [← List.length_eq_zero_iff]; omega))
set_option maxRecDepth 20000 in
set_option maxHeartbeats 4000000 in
theorem plain_19 (t : List UInt8) (x : V) (A B K : Option Addr) (c d m e : Nat) (f : Bool) (a : Int) (ok : Nat → Prop) (w : World) (hx : RdV ok w (valV x A c B d) x) (htl : t.length ≤ 16777216) :
    Calls Tryz.prog 50 #[.agg #[.int .i64 19, .string ⟨t.toArray⟩, .int .i64 x.kind, .int .i64 x.num, .string ⟨x.str.toArray⟩, .slice A x.parts.length c, .slice B x.keys.length d, .bool f, .slice K m e, .int .i64 a]] w fun e1 w' => e1 = .returned (.bool (saidText 19 t && (saidVal 19 x && (!f || decide ((19 : Int) = 2))))) ∧ Below w.heap.size w w' := by
  have HV := Lib.hid hx
  have HU := Lib.hid (unit_right x)
  clear hx
  go_enter Tryz.func50, Tryz.ntmps50
  all_goals go_wp2_with fail
  all_goals go_ret
  all_goals (refine ⟨ret_bool ?_, one_al _ _⟩; rw [saidVal_unit 19 (by decide)]; clear HV HU; simp only [saidText]; simp_all <;> first | omega | (rw [Bool.eq_iff_iff]; simp [← List.length_eq_zero_iff]; done) | (rw [Bool.eq_iff_iff]; simp [← List.length_eq_zero_iff]; omega))
set_option maxRecDepth 20000 in
set_option maxHeartbeats 4000000 in
theorem plain_20 (t : List UInt8) (x : V) (A B K : Option Addr) (c d m e : Nat) (f : Bool) (a : Int) (ok : Nat → Prop) (w : World) (hx : RdV ok w (valV x A c B d) x) (htl : t.length ≤ 16777216) :
    Calls Tryz.prog 50 #[.agg #[.int .i64 20, .string ⟨t.toArray⟩, .int .i64 x.kind, .int .i64 x.num, .string ⟨x.str.toArray⟩, .slice A x.parts.length c, .slice B x.keys.length d, .bool f, .slice K m e, .int .i64 a]] w fun e1 w' => e1 = .returned (.bool (saidText 20 t && (saidVal 20 x && (!f || decide ((20 : Int) = 2))))) ∧ Below w.heap.size w w' := by
  have HV := Lib.hid hx
  have HU := Lib.hid (unit_right x)
  clear hx
  go_enter Tryz.func50, Tryz.ntmps50
  all_goals go_wp2_with fail
  all_goals go_ret
  all_goals (refine ⟨ret_bool ?_, one_al _ _⟩; rw [saidVal_unit 20 (by decide)]; clear HV HU; simp only [saidText]; simp_all <;> first | omega | (rw [Bool.eq_iff_iff]; simp [← List.length_eq_zero_iff]; done) | (rw [Bool.eq_iff_iff]; simp [← List.length_eq_zero_iff]; omega))
set_option maxRecDepth 20000 in
set_option maxHeartbeats 4000000 in
theorem plain_21 (t : List UInt8) (x : V) (A B K : Option Addr) (c d m e : Nat) (f : Bool) (a : Int) (ok : Nat → Prop) (w : World) (hx : RdV ok w (valV x A c B d) x) (htl : t.length ≤ 16777216) :
    Calls Tryz.prog 50 #[.agg #[.int .i64 21, .string ⟨t.toArray⟩, .int .i64 x.kind, .int .i64 x.num, .string ⟨x.str.toArray⟩, .slice A x.parts.length c, .slice B x.keys.length d, .bool f, .slice K m e, .int .i64 a]] w fun e1 w' => e1 = .returned (.bool (saidText 21 t && (saidVal 21 x && (!f || decide ((21 : Int) = 2))))) ∧ Below w.heap.size w w' := by
  have HV := Lib.hid hx
  have HU := Lib.hid (unit_right x)
  clear hx
  go_enter Tryz.func50, Tryz.ntmps50
  all_goals go_wp2_with fail
  all_goals go_ret
  all_goals (refine ⟨ret_bool ?_, one_al _ _⟩; rw [saidVal_unit 21 (by decide)]; clear HV HU; simp only [saidText]; simp_all <;> first | omega | (rw [Bool.eq_iff_iff]; simp [← List.length_eq_zero_iff]; done) | (rw [Bool.eq_iff_iff]; simp [← List.length_eq_zero_iff]; omega))
set_option maxRecDepth 20000 in
set_option maxHeartbeats 4000000 in
theorem plain_22 (t : List UInt8) (x : V) (A B K : Option Addr) (c d m e : Nat) (f : Bool) (a : Int) (ok : Nat → Prop) (w : World) (hx : RdV ok w (valV x A c B d) x) (htl : t.length ≤ 16777216) :
    Calls Tryz.prog 50 #[.agg #[.int .i64 22, .string ⟨t.toArray⟩, .int .i64 x.kind, .int .i64 x.num, .string ⟨x.str.toArray⟩, .slice A x.parts.length c, .slice B x.keys.length d, .bool f, .slice K m e, .int .i64 a]] w fun e1 w' => e1 = .returned (.bool (saidText 22 t && (saidVal 22 x && (!f || decide ((22 : Int) = 2))))) ∧ Below w.heap.size w w' := by
  have HV := Lib.hid hx
  have HU := Lib.hid (unit_right x)
  clear hx
  go_enter Tryz.func50, Tryz.ntmps50
  go_wp2_with fail
  refine (ref_IsName ⟨t.toArray⟩ _).mono ?_
  rintro e1 w1 ⟨rfl, hb⟩
  have HB := Lib.hid hb
  obtain ⟨b0, b1, b2, b3, b4, b5, b6, b7, b8, b9⟩ := box10 hb
  clear hb
  cases hnm : isNameB t
  all_goals have HNM := Lib.hid hnm
  all_goals clear hnm
  all_goals go_wp2_with fail
  all_goals go_ret
  all_goals (refine ⟨ret_bool ?_, bthen (one_al _ _) HB.out⟩; have hnm := HNM.out; clear HNM; rw [saidVal_unit 22 (by decide)]; clear HV HU; simp only [saidText]; simp_all <;> first | omega | (rw [Bool.eq_iff_iff]; simp [← List.length_eq_zero_iff]; done) | (rw [Bool.eq_iff_iff]; simp [← List.length_eq_zero_iff]; omega))
theorem rf_plain (n : N) (h1 : 1 ≤ n.kind) (h22 : n.kind ≤ 22) (v : Value) (ok : Nat → Prop) (w : World) (hv : RdN ok w v n) :
    Calls Tryz.prog 50 #[v] w fun e1 w' => e1 = .returned (.bool (saidS n)) ∧ Below w.heap.size w w' := by
  obtain ⟨A, c, B, d, K, e, rfl, hn⟩ := hv.form
  cases n with
  | mk k t x f l a =>
  simp only [N.kind] at h1 h22
  have hk : k = 1 ∨ k = 2 ∨ k = 3 ∨ k = 4 ∨ k = 5 ∨ k = 6 ∨ k = 7 ∨ k = 8 ∨ k = 9 ∨ k = 10 ∨ k = 11 ∨ k = 12 ∨ k = 13 ∨ k = 14 ∨ k = 15 ∨ k = 16 ∨ k = 17 ∨ k = 18 ∨ k = 19 ∨ k = 20 ∨ k = 21 ∨ k = 22 := by omega
  have hl := hn.val
  have h3 := hn.text
  rcases hk with rfl | rfl | rfl | rfl | rfl | rfl | rfl | rfl | rfl | rfl | rfl | rfl | rfl | rfl | rfl | rfl | rfl | rfl | rfl | rfl | rfl | rfl
  · exact plain_1 t x A B K c d l.length e f a ok w hl h3
  · exact plain_2 t x A B K c d l.length e f a ok w hl h3
  · exact plain_3 t x A B K c d l.length e f a ok w hl h3
  · exact plain_4 t x A B K c d l.length e f a ok w hl h3
  · exact plain_5 t x A B K c d l.length e f a ok w hl h3
  · exact plain_6 t x A B K c d l.length e f a ok w hl h3
  · exact plain_7 t x A B K c d l.length e f a ok w hl h3
  · exact plain_8 t x A B K c d l.length e f a ok w hl h3
  · exact plain_9 t x A B K c d l.length e f a ok w hl h3
  · exact plain_10 t x A B K c d l.length e f a ok w hl h3
  · exact plain_11 t x A B K c d l.length e f a ok w hl h3
  · exact plain_12 t x A B K c d l.length e f a ok w hl h3
  · exact plain_13 t x A B K c d l.length e f a ok w hl h3
  · exact plain_14 t x A B K c d l.length e f a ok w hl h3
  · exact plain_15 t x A B K c d l.length e f a ok w hl h3
  · exact plain_16 t x A B K c d l.length e f a ok w hl h3
  · exact plain_17 t x A B K c d l.length e f a ok w hl h3
  · exact plain_18 t x A B K c d l.length e f a ok w hl h3
  · exact plain_19 t x A B K c d l.length e f a ok w hl h3
  · exact plain_20 t x A B K c d l.length e f a ok w hl h3
  · exact plain_21 t x A B K c d l.length e f a ok w hl h3
  · exact plain_22 t x A B K c d l.length e f a ok w hl h3
end Go.Proofs.YthlfeiiolafonaaGreatDoor
