/- Contract of print.said, kind by kind. Printed by gen_said.py. -/
import Derived.Test.YthlfeiiolafonaaDoorShapeB
import Derived.Test.YthlfeiiolafonaaDoorLexIsName
import Derived.Test.YthlfeiiolafonaaDoorMeasB
set_option linter.unusedVariables false
set_option linter.unusedSimpArgs false
namespace Go.Proofs.YthlfeiiolafonaaDoor
open Go.RowKit Go.IntWalk

theorem cells10 {w w1 : World} {g : Nat} {c0 c1 c2 c3 c4 c5 c6 c7 c8 c9 : Value} (h0 : w.cell? ⟨g, 0, none⟩ = some c0) (h1 : w.cell? ⟨g, 1, none⟩ = some c1) (h2 : w.cell? ⟨g, 2, none⟩ = some c2) (h3 : w.cell? ⟨g, 3, none⟩ = some c3) (h4 : w.cell? ⟨g, 4, none⟩ = some c4) (h5 : w.cell? ⟨g, 5, none⟩ = some c5) (h6 : w.cell? ⟨g, 6, none⟩ = some c6) (h7 : w.cell? ⟨g, 7, none⟩ = some c7) (h8 : w.cell? ⟨g, 8, none⟩ = some c8) (h9 : w.cell? ⟨g, 9, none⟩ = some c9) (h : Below w.heap.size w w1) :
    w1.cell? ⟨g, 0, none⟩ = some c0 ∧ w1.cell? ⟨g, 1, none⟩ = some c1 ∧ w1.cell? ⟨g, 2, none⟩ = some c2 ∧ w1.cell? ⟨g, 3, none⟩ = some c3 ∧ w1.cell? ⟨g, 4, none⟩ = some c4 ∧ w1.cell? ⟨g, 5, none⟩ = some c5 ∧ w1.cell? ⟨g, 6, none⟩ = some c6 ∧ w1.cell? ⟨g, 7, none⟩ = some c7 ∧ w1.cell? ⟨g, 8, none⟩ = some c8 ∧ w1.cell? ⟨g, 9, none⟩ = some c9 := ⟨bcell h h0, bcell h h1, bcell h h2, bcell h h3, bcell h h4, bcell h h5, bcell h h6, bcell h h7, bcell h h8, bcell h h9⟩
theorem box10b {w w1 : World} {c0 c1 c2 c3 c4 c5 c6 c7 c8 c9 : Value} {t : TypeId} {X : Obj} (h : Below ((w.alloc (.cells #[c0, c1, c2, c3, c4, c5, c6, c7, c8, c9] t)).alloc X).heap.size ((w.alloc (.cells #[c0, c1, c2, c3, c4, c5, c6, c7, c8, c9] t)).alloc X) w1) :
    w1.cell? ⟨w.heap.size, 0, none⟩ = some c0 ∧ w1.cell? ⟨w.heap.size, 1, none⟩ = some c1 ∧ w1.cell? ⟨w.heap.size, 2, none⟩ = some c2 ∧ w1.cell? ⟨w.heap.size, 3, none⟩ = some c3 ∧ w1.cell? ⟨w.heap.size, 4, none⟩ = some c4 ∧ w1.cell? ⟨w.heap.size, 5, none⟩ = some c5 ∧ w1.cell? ⟨w.heap.size, 6, none⟩ = some c6 ∧ w1.cell? ⟨w.heap.size, 7, none⟩ = some c7 ∧ w1.cell? ⟨w.heap.size, 8, none⟩ = some c8 ∧ w1.cell? ⟨w.heap.size, 9, none⟩ = some c9 := box10 (bthen (one_al _ _) h)

set_option maxRecDepth 20000 in
set_option maxHeartbeats 4000000 in
theorem said_1 (t : List UInt8) (x : V) (A B K : Option Addr) (c d m e : Nat) (f : Bool) (a : Int) (ok : Nat → Prop) (w : World) (hx : RdV ok w (valV x A c B d) x) (htl : t.length ≤ 16777216) :
    Calls Tryd.prog 35 #[.agg #[.int .i64 1, .string ⟨t.toArray⟩, .int .i64 x.kind, .int .i64 x.num, .string ⟨x.str.toArray⟩, .slice A x.parts.length c, .slice B x.keys.length d, .bool f, .slice K m e, .int .i64 a]] w fun e1 w' => e1 = .returned (.bool (saidText 1 t && (saidVal 1 x && (!f || decide ((1 : Int) = 2))))) ∧ Below w.heap.size w w' := by
  have hsz : (⟨t.toArray⟩ : ByteArray).size ≤ 9223372036854775807 := by
    show t.toArray.size ≤ _
    rw [List.size_toArray]; omega
  have HN := Lib.hid (fun W => lex_IsName ⟨t.toArray⟩ W hsz)
  have HV := Lib.hid hx
  clear hx hsz
  have HR := Lib.hid (fun (W : World) (vv : Value) (he : vv = valV x A c B d) (hv : RdV ok W (valV x A c B d) x) => he ▸ value_Right x (valV x A c B d) ok W hv)
  go_enter Tryd.func35, Tryd.ntmps35
  all_goals go_wp2_with (first | (go_at_call 51; refine (HR.out _ _ (by first | rfl | simp_all) (HV.out.below (two_al _ _ _))).mono ?_; rintro e2 w2 ⟨rfl, hb⟩; have HB2 := Lib.hid hb; obtain ⟨b0, b1, b2, b3, b4, b5, b6, b7, b8, b9⟩ := box10b hb; clear hb) | fail)
  all_goals (try go_wp2_with fail)
  all_goals go_ret
  all_goals (refine ⟨ret_bool ?_, by first | exact bthen (two_al _ _ _) HB2.out | exact (two_al _ _ _)⟩; clear HR HV; simp only [saidText, saidVal]; simp_all <;> omega)
set_option maxRecDepth 20000 in
set_option maxHeartbeats 4000000 in
theorem said_2 (t : List UInt8) (x : V) (A B K : Option Addr) (c d m e : Nat) (f : Bool) (a : Int) (ok : Nat → Prop) (w : World) (hx : RdV ok w (valV x A c B d) x) (htl : t.length ≤ 16777216) :
    Calls Tryd.prog 35 #[.agg #[.int .i64 2, .string ⟨t.toArray⟩, .int .i64 x.kind, .int .i64 x.num, .string ⟨x.str.toArray⟩, .slice A x.parts.length c, .slice B x.keys.length d, .bool f, .slice K m e, .int .i64 a]] w fun e1 w' => e1 = .returned (.bool (saidText 2 t && (saidVal 2 x && (!f || decide ((2 : Int) = 2))))) ∧ Below w.heap.size w w' := by
  have hsz : (⟨t.toArray⟩ : ByteArray).size ≤ 9223372036854775807 := by
    show t.toArray.size ≤ _
    rw [List.size_toArray]; omega
  have HN := Lib.hid (fun W => lex_IsName ⟨t.toArray⟩ W hsz)
  have HV := Lib.hid hx
  clear hx hsz
  have HR := Lib.hid (fun (W : World) (vv : Value) (he : vv = valV x A c B d) (hv : RdV ok W (valV x A c B d) x) => he ▸ value_Right x (valV x A c B d) ok W hv)
  go_enter Tryd.func35, Tryd.ntmps35
  go_wp2_with fail
  refine (HN.out _).mono ?_
  rintro e1 w1 ⟨rfl, hb⟩
  have HB := Lib.hid hb
  obtain ⟨b0, b1, b2, b3, b4, b5, b6, b7, b8, b9⟩ := box10 hb
  clear hb
  have z0 := fun X => bcell (one_al w1 X) b0
  have z1 := fun X => bcell (one_al w1 X) b1
  have z2 := fun X => bcell (one_al w1 X) b2
  have z3 := fun X => bcell (one_al w1 X) b3
  have z4 := fun X => bcell (one_al w1 X) b4
  have z5 := fun X => bcell (one_al w1 X) b5
  have z6 := fun X => bcell (one_al w1 X) b6
  have z7 := fun X => bcell (one_al w1 X) b7
  have z8 := fun X => bcell (one_al w1 X) b8
  have z9 := fun X => bcell (one_al w1 X) b9
  cases hnm : isNameB t
  all_goals have HNM := Lib.hid hnm
  all_goals clear hnm HN
  all_goals go_wp2_with (first | (go_at_call 51; refine (HR.out _ _ (by first | rfl | simp_all) (HV.out.below (bthen (bthen (one_al _ _) HB.out) (one_al _ _)))).mono ?_; rintro e2 w2 ⟨rfl, hb⟩; have HB2 := Lib.hid hb; obtain ⟨c0, c1, c2, c3, c4, c5, c6, c7, c8, c9⟩ := cells10 b0 b1 b2 b3 b4 b5 b6 b7 b8 b9 (bthen (one_al _ _) hb); clear hb) | fail)
  all_goals (try go_wp2_with fail)
  all_goals go_ret
  all_goals (refine ⟨ret_bool ?_, by first | exact bthen (bthen (bthen (one_al _ _) HB.out) (one_al _ _)) HB2.out | exact (bthen (bthen (one_al _ _) HB.out) (one_al _ _))⟩; have hnm := HNM.out; clear HNM; clear HR HV; simp only [saidText, saidVal]; simp_all <;> omega)
set_option maxRecDepth 20000 in
set_option maxHeartbeats 4000000 in
theorem said_3 (t : List UInt8) (x : V) (A B K : Option Addr) (c d m e : Nat) (f : Bool) (a : Int) (ok : Nat → Prop) (w : World) (hx : RdV ok w (valV x A c B d) x) (htl : t.length ≤ 16777216) :
    Calls Tryd.prog 35 #[.agg #[.int .i64 3, .string ⟨t.toArray⟩, .int .i64 x.kind, .int .i64 x.num, .string ⟨x.str.toArray⟩, .slice A x.parts.length c, .slice B x.keys.length d, .bool f, .slice K m e, .int .i64 a]] w fun e1 w' => e1 = .returned (.bool (saidText 3 t && (saidVal 3 x && (!f || decide ((3 : Int) = 2))))) ∧ Below w.heap.size w w' := by
  have hsz : (⟨t.toArray⟩ : ByteArray).size ≤ 9223372036854775807 := by
    show t.toArray.size ≤ _
    rw [List.size_toArray]; omega
  have HN := Lib.hid (fun W => lex_IsName ⟨t.toArray⟩ W hsz)
  have HV := Lib.hid hx
  clear hx hsz
  have HR := Lib.hid (fun (W : World) (vv : Value) (he : vv = valV x A c B d) (hv : RdV ok W (valV x A c B d) x) => he ▸ value_Right x (valV x A c B d) ok W hv)
  go_enter Tryd.func35, Tryd.ntmps35
  go_wp2_with fail
  refine (HN.out _).mono ?_
  rintro e1 w1 ⟨rfl, hb⟩
  have HB := Lib.hid hb
  obtain ⟨b0, b1, b2, b3, b4, b5, b6, b7, b8, b9⟩ := box10 hb
  clear hb
  have z0 := fun X => bcell (one_al w1 X) b0
  have z1 := fun X => bcell (one_al w1 X) b1
  have z2 := fun X => bcell (one_al w1 X) b2
  have z3 := fun X => bcell (one_al w1 X) b3
  have z4 := fun X => bcell (one_al w1 X) b4
  have z5 := fun X => bcell (one_al w1 X) b5
  have z6 := fun X => bcell (one_al w1 X) b6
  have z7 := fun X => bcell (one_al w1 X) b7
  have z8 := fun X => bcell (one_al w1 X) b8
  have z9 := fun X => bcell (one_al w1 X) b9
  cases hnm : isNameB t
  all_goals have HNM := Lib.hid hnm
  all_goals clear hnm HN
  all_goals go_wp2_with (first | (go_at_call 51; refine (HR.out _ _ (by first | rfl | simp_all) (HV.out.below (bthen (bthen (one_al _ _) HB.out) (one_al _ _)))).mono ?_; rintro e2 w2 ⟨rfl, hb⟩; have HB2 := Lib.hid hb; obtain ⟨c0, c1, c2, c3, c4, c5, c6, c7, c8, c9⟩ := cells10 b0 b1 b2 b3 b4 b5 b6 b7 b8 b9 (bthen (one_al _ _) hb); clear hb) | fail)
  all_goals (try go_wp2_with fail)
  all_goals go_ret
  all_goals (refine ⟨ret_bool ?_, by first | exact bthen (bthen (bthen (one_al _ _) HB.out) (one_al _ _)) HB2.out | exact (bthen (bthen (one_al _ _) HB.out) (one_al _ _))⟩; have hnm := HNM.out; clear HNM; clear HR HV; simp only [saidText, saidVal]; simp_all <;> omega)
set_option maxRecDepth 20000 in
set_option maxHeartbeats 4000000 in
theorem said_4 (t : List UInt8) (x : V) (A B K : Option Addr) (c d m e : Nat) (f : Bool) (a : Int) (ok : Nat → Prop) (w : World) (hx : RdV ok w (valV x A c B d) x) (htl : t.length ≤ 16777216) :
    Calls Tryd.prog 35 #[.agg #[.int .i64 4, .string ⟨t.toArray⟩, .int .i64 x.kind, .int .i64 x.num, .string ⟨x.str.toArray⟩, .slice A x.parts.length c, .slice B x.keys.length d, .bool f, .slice K m e, .int .i64 a]] w fun e1 w' => e1 = .returned (.bool (saidText 4 t && (saidVal 4 x && (!f || decide ((4 : Int) = 2))))) ∧ Below w.heap.size w w' := by
  have hsz : (⟨t.toArray⟩ : ByteArray).size ≤ 9223372036854775807 := by
    show t.toArray.size ≤ _
    rw [List.size_toArray]; omega
  have HN := Lib.hid (fun W => lex_IsName ⟨t.toArray⟩ W hsz)
  have HV := Lib.hid hx
  clear hx hsz
  have HR := Lib.hid (fun (W : World) (vv : Value) (he : vv = valV x A c B d) (hv : RdV ok W (valV x A c B d) x) => he ▸ value_Right x (valV x A c B d) ok W hv)
  go_enter Tryd.func35, Tryd.ntmps35
  all_goals go_wp2_with (first | (go_at_call 51; refine (HR.out _ _ (by first | rfl | simp_all) (HV.out.below (two_al _ _ _))).mono ?_; rintro e2 w2 ⟨rfl, hb⟩; have HB2 := Lib.hid hb; obtain ⟨b0, b1, b2, b3, b4, b5, b6, b7, b8, b9⟩ := box10b hb; clear hb) | fail)
  all_goals (try go_wp2_with fail)
  all_goals go_ret
  all_goals (refine ⟨ret_bool ?_, by first | exact bthen (two_al _ _ _) HB2.out | exact (two_al _ _ _)⟩; clear HR HV; simp only [saidText, saidVal]; simp_all <;> omega)
set_option maxRecDepth 20000 in
set_option maxHeartbeats 4000000 in
theorem said_5 (t : List UInt8) (x : V) (A B K : Option Addr) (c d m e : Nat) (f : Bool) (a : Int) (ok : Nat → Prop) (w : World) (hx : RdV ok w (valV x A c B d) x) (htl : t.length ≤ 16777216) :
    Calls Tryd.prog 35 #[.agg #[.int .i64 5, .string ⟨t.toArray⟩, .int .i64 x.kind, .int .i64 x.num, .string ⟨x.str.toArray⟩, .slice A x.parts.length c, .slice B x.keys.length d, .bool f, .slice K m e, .int .i64 a]] w fun e1 w' => e1 = .returned (.bool (saidText 5 t && (saidVal 5 x && (!f || decide ((5 : Int) = 2))))) ∧ Below w.heap.size w w' := by
  have hsz : (⟨t.toArray⟩ : ByteArray).size ≤ 9223372036854775807 := by
    show t.toArray.size ≤ _
    rw [List.size_toArray]; omega
  have HN := Lib.hid (fun W => lex_IsName ⟨t.toArray⟩ W hsz)
  have HV := Lib.hid hx
  clear hx hsz
  have HR := Lib.hid (fun (W : World) (vv : Value) (he : vv = valV x A c B d) (hv : RdV ok W (valV x A c B d) x) => he ▸ value_Right x (valV x A c B d) ok W hv)
  go_enter Tryd.func35, Tryd.ntmps35
  go_wp2_with fail
  refine (HN.out _).mono ?_
  rintro e1 w1 ⟨rfl, hb⟩
  have HB := Lib.hid hb
  obtain ⟨b0, b1, b2, b3, b4, b5, b6, b7, b8, b9⟩ := box10 hb
  clear hb
  have z0 := fun X => bcell (one_al w1 X) b0
  have z1 := fun X => bcell (one_al w1 X) b1
  have z2 := fun X => bcell (one_al w1 X) b2
  have z3 := fun X => bcell (one_al w1 X) b3
  have z4 := fun X => bcell (one_al w1 X) b4
  have z5 := fun X => bcell (one_al w1 X) b5
  have z6 := fun X => bcell (one_al w1 X) b6
  have z7 := fun X => bcell (one_al w1 X) b7
  have z8 := fun X => bcell (one_al w1 X) b8
  have z9 := fun X => bcell (one_al w1 X) b9
  cases hnm : isNameB t
  all_goals have HNM := Lib.hid hnm
  all_goals clear hnm HN
  all_goals go_wp2_with (first | (go_at_call 51; refine (HR.out _ _ (by first | rfl | simp_all) (HV.out.below (bthen (bthen (one_al _ _) HB.out) (one_al _ _)))).mono ?_; rintro e2 w2 ⟨rfl, hb⟩; have HB2 := Lib.hid hb; obtain ⟨c0, c1, c2, c3, c4, c5, c6, c7, c8, c9⟩ := cells10 b0 b1 b2 b3 b4 b5 b6 b7 b8 b9 (bthen (one_al _ _) hb); clear hb) | fail)
  all_goals (try go_wp2_with fail)
  all_goals go_ret
  all_goals (refine ⟨ret_bool ?_, by first | exact bthen (bthen (bthen (one_al _ _) HB.out) (one_al _ _)) HB2.out | exact (bthen (bthen (one_al _ _) HB.out) (one_al _ _))⟩; have hnm := HNM.out; clear HNM; clear HR HV; simp only [saidText, saidVal]; simp_all <;> omega)
set_option maxRecDepth 20000 in
set_option maxHeartbeats 4000000 in
theorem said_6 (t : List UInt8) (x : V) (A B K : Option Addr) (c d m e : Nat) (f : Bool) (a : Int) (ok : Nat → Prop) (w : World) (hx : RdV ok w (valV x A c B d) x) (htl : t.length ≤ 16777216) :
    Calls Tryd.prog 35 #[.agg #[.int .i64 6, .string ⟨t.toArray⟩, .int .i64 x.kind, .int .i64 x.num, .string ⟨x.str.toArray⟩, .slice A x.parts.length c, .slice B x.keys.length d, .bool f, .slice K m e, .int .i64 a]] w fun e1 w' => e1 = .returned (.bool (saidText 6 t && (saidVal 6 x && (!f || decide ((6 : Int) = 2))))) ∧ Below w.heap.size w w' := by
  have hsz : (⟨t.toArray⟩ : ByteArray).size ≤ 9223372036854775807 := by
    show t.toArray.size ≤ _
    rw [List.size_toArray]; omega
  have HN := Lib.hid (fun W => lex_IsName ⟨t.toArray⟩ W hsz)
  have HV := Lib.hid hx
  clear hx hsz
  have HR := Lib.hid (fun (W : World) (vv : Value) (he : vv = valV x A c B d) (hv : RdV ok W (valV x A c B d) x) => he ▸ value_Right x (valV x A c B d) ok W hv)
  go_enter Tryd.func35, Tryd.ntmps35
  go_wp2_with fail
  refine (HN.out _).mono ?_
  rintro e1 w1 ⟨rfl, hb⟩
  have HB := Lib.hid hb
  obtain ⟨b0, b1, b2, b3, b4, b5, b6, b7, b8, b9⟩ := box10 hb
  clear hb
  have z0 := fun X => bcell (one_al w1 X) b0
  have z1 := fun X => bcell (one_al w1 X) b1
  have z2 := fun X => bcell (one_al w1 X) b2
  have z3 := fun X => bcell (one_al w1 X) b3
  have z4 := fun X => bcell (one_al w1 X) b4
  have z5 := fun X => bcell (one_al w1 X) b5
  have z6 := fun X => bcell (one_al w1 X) b6
  have z7 := fun X => bcell (one_al w1 X) b7
  have z8 := fun X => bcell (one_al w1 X) b8
  have z9 := fun X => bcell (one_al w1 X) b9
  cases hnm : isNameB t
  all_goals have HNM := Lib.hid hnm
  all_goals clear hnm HN
  all_goals go_wp2_with (first | (go_at_call 51; refine (HR.out _ _ (by first | rfl | simp_all) (HV.out.below (bthen (bthen (one_al _ _) HB.out) (one_al _ _)))).mono ?_; rintro e2 w2 ⟨rfl, hb⟩; have HB2 := Lib.hid hb; obtain ⟨c0, c1, c2, c3, c4, c5, c6, c7, c8, c9⟩ := cells10 b0 b1 b2 b3 b4 b5 b6 b7 b8 b9 (bthen (one_al _ _) hb); clear hb) | fail)
  all_goals (try go_wp2_with fail)
  all_goals go_ret
  all_goals (refine ⟨ret_bool ?_, by first | exact bthen (bthen (bthen (one_al _ _) HB.out) (one_al _ _)) HB2.out | exact (bthen (bthen (one_al _ _) HB.out) (one_al _ _))⟩; have hnm := HNM.out; clear HNM; clear HR HV; simp only [saidText, saidVal]; simp_all <;> omega)
set_option maxRecDepth 20000 in
set_option maxHeartbeats 4000000 in
theorem said_7 (t : List UInt8) (x : V) (A B K : Option Addr) (c d m e : Nat) (f : Bool) (a : Int) (ok : Nat → Prop) (w : World) (hx : RdV ok w (valV x A c B d) x) (htl : t.length ≤ 16777216) :
    Calls Tryd.prog 35 #[.agg #[.int .i64 7, .string ⟨t.toArray⟩, .int .i64 x.kind, .int .i64 x.num, .string ⟨x.str.toArray⟩, .slice A x.parts.length c, .slice B x.keys.length d, .bool f, .slice K m e, .int .i64 a]] w fun e1 w' => e1 = .returned (.bool (saidText 7 t && (saidVal 7 x && (!f || decide ((7 : Int) = 2))))) ∧ Below w.heap.size w w' := by
  have hsz : (⟨t.toArray⟩ : ByteArray).size ≤ 9223372036854775807 := by
    show t.toArray.size ≤ _
    rw [List.size_toArray]; omega
  have HN := Lib.hid (fun W => lex_IsName ⟨t.toArray⟩ W hsz)
  have HV := Lib.hid hx
  clear hx hsz
  have HR := Lib.hid (fun (W : World) (vv : Value) (he : vv = valV x A c B d) (hv : RdV ok W (valV x A c B d) x) => he ▸ value_Right x (valV x A c B d) ok W hv)
  go_enter Tryd.func35, Tryd.ntmps35
  all_goals go_wp2_with (first | (go_at_call 51; refine (HR.out _ _ (by first | rfl | simp_all) (HV.out.below (two_al _ _ _))).mono ?_; rintro e2 w2 ⟨rfl, hb⟩; have HB2 := Lib.hid hb; obtain ⟨b0, b1, b2, b3, b4, b5, b6, b7, b8, b9⟩ := box10b hb; clear hb) | fail)
  all_goals (try go_wp2_with fail)
  all_goals go_ret
  all_goals (refine ⟨ret_bool ?_, by first | exact bthen (two_al _ _ _) HB2.out | exact (two_al _ _ _)⟩; clear HR HV; simp only [saidText, saidVal]; simp_all <;> omega)
set_option maxRecDepth 20000 in
set_option maxHeartbeats 4000000 in
theorem said_8 (t : List UInt8) (x : V) (A B K : Option Addr) (c d m e : Nat) (f : Bool) (a : Int) (ok : Nat → Prop) (w : World) (hx : RdV ok w (valV x A c B d) x) (htl : t.length ≤ 16777216) :
    Calls Tryd.prog 35 #[.agg #[.int .i64 8, .string ⟨t.toArray⟩, .int .i64 x.kind, .int .i64 x.num, .string ⟨x.str.toArray⟩, .slice A x.parts.length c, .slice B x.keys.length d, .bool f, .slice K m e, .int .i64 a]] w fun e1 w' => e1 = .returned (.bool (saidText 8 t && (saidVal 8 x && (!f || decide ((8 : Int) = 2))))) ∧ Below w.heap.size w w' := by
  have hsz : (⟨t.toArray⟩ : ByteArray).size ≤ 9223372036854775807 := by
    show t.toArray.size ≤ _
    rw [List.size_toArray]; omega
  have HN := Lib.hid (fun W => lex_IsName ⟨t.toArray⟩ W hsz)
  have HV := Lib.hid hx
  clear hx hsz
  have HR := Lib.hid (fun (W : World) (vv : Value) (he : vv = valV x A c B d) (hv : RdV ok W (valV x A c B d) x) => he ▸ value_Right x (valV x A c B d) ok W hv)
  go_enter Tryd.func35, Tryd.ntmps35
  all_goals go_wp2_with (first | (go_at_call 51; refine (HR.out _ _ (by first | rfl | simp_all) (HV.out.below (two_al _ _ _))).mono ?_; rintro e2 w2 ⟨rfl, hb⟩; have HB2 := Lib.hid hb; obtain ⟨b0, b1, b2, b3, b4, b5, b6, b7, b8, b9⟩ := box10b hb; clear hb) | fail)
  all_goals (try go_wp2_with fail)
  all_goals go_ret
  all_goals (refine ⟨ret_bool ?_, by first | exact bthen (two_al _ _ _) HB2.out | exact (two_al _ _ _)⟩; clear HR HV; simp only [saidText, saidVal]; simp_all <;> omega)
set_option maxRecDepth 20000 in
set_option maxHeartbeats 4000000 in
theorem said_9 (t : List UInt8) (x : V) (A B K : Option Addr) (c d m e : Nat) (f : Bool) (a : Int) (ok : Nat → Prop) (w : World) (hx : RdV ok w (valV x A c B d) x) (htl : t.length ≤ 16777216) :
    Calls Tryd.prog 35 #[.agg #[.int .i64 9, .string ⟨t.toArray⟩, .int .i64 x.kind, .int .i64 x.num, .string ⟨x.str.toArray⟩, .slice A x.parts.length c, .slice B x.keys.length d, .bool f, .slice K m e, .int .i64 a]] w fun e1 w' => e1 = .returned (.bool (saidText 9 t && (saidVal 9 x && (!f || decide ((9 : Int) = 2))))) ∧ Below w.heap.size w w' := by
  have hsz : (⟨t.toArray⟩ : ByteArray).size ≤ 9223372036854775807 := by
    show t.toArray.size ≤ _
    rw [List.size_toArray]; omega
  have HN := Lib.hid (fun W => lex_IsName ⟨t.toArray⟩ W hsz)
  have HV := Lib.hid hx
  clear hx hsz
  have HR := Lib.hid (fun (W : World) (vv : Value) (he : vv = valV x A c B d) (hv : RdV ok W (valV x A c B d) x) => he ▸ value_Right x (valV x A c B d) ok W hv)
  go_enter Tryd.func35, Tryd.ntmps35
  all_goals go_wp2_with (first | (go_at_call 51; refine (HR.out _ _ (by first | rfl | simp_all) (HV.out.below (two_al _ _ _))).mono ?_; rintro e2 w2 ⟨rfl, hb⟩; have HB2 := Lib.hid hb; obtain ⟨b0, b1, b2, b3, b4, b5, b6, b7, b8, b9⟩ := box10b hb; clear hb) | fail)
  all_goals (try go_wp2_with fail)
  all_goals go_ret
  all_goals (refine ⟨ret_bool ?_, by first | exact bthen (two_al _ _ _) HB2.out | exact (two_al _ _ _)⟩; clear HR HV; simp only [saidText, saidVal]; simp_all <;> omega)
set_option maxRecDepth 20000 in
set_option maxHeartbeats 4000000 in
theorem said_10 (t : List UInt8) (x : V) (A B K : Option Addr) (c d m e : Nat) (f : Bool) (a : Int) (ok : Nat → Prop) (w : World) (hx : RdV ok w (valV x A c B d) x) (htl : t.length ≤ 16777216) :
    Calls Tryd.prog 35 #[.agg #[.int .i64 10, .string ⟨t.toArray⟩, .int .i64 x.kind, .int .i64 x.num, .string ⟨x.str.toArray⟩, .slice A x.parts.length c, .slice B x.keys.length d, .bool f, .slice K m e, .int .i64 a]] w fun e1 w' => e1 = .returned (.bool (saidText 10 t && (saidVal 10 x && (!f || decide ((10 : Int) = 2))))) ∧ Below w.heap.size w w' := by
  have hsz : (⟨t.toArray⟩ : ByteArray).size ≤ 9223372036854775807 := by
    show t.toArray.size ≤ _
    rw [List.size_toArray]; omega
  have HN := Lib.hid (fun W => lex_IsName ⟨t.toArray⟩ W hsz)
  have HV := Lib.hid hx
  clear hx hsz
  have HR := Lib.hid (fun (W : World) (vv : Value) (he : vv = valV x A c B d) (hv : RdV ok W (valV x A c B d) x) => he ▸ value_Right x (valV x A c B d) ok W hv)
  go_enter Tryd.func35, Tryd.ntmps35
  all_goals go_wp2_with (first | (go_at_call 51; refine (HR.out _ _ (by first | rfl | simp_all) (HV.out.below (two_al _ _ _))).mono ?_; rintro e2 w2 ⟨rfl, hb⟩; have HB2 := Lib.hid hb; obtain ⟨b0, b1, b2, b3, b4, b5, b6, b7, b8, b9⟩ := box10b hb; clear hb) | fail)
  all_goals (try go_wp2_with fail)
  all_goals go_ret
  all_goals (refine ⟨ret_bool ?_, by first | exact bthen (two_al _ _ _) HB2.out | exact (two_al _ _ _)⟩; clear HR HV; simp only [saidText, saidVal]; simp_all <;> omega)
set_option maxRecDepth 20000 in
set_option maxHeartbeats 4000000 in
theorem said_11 (t : List UInt8) (x : V) (A B K : Option Addr) (c d m e : Nat) (f : Bool) (a : Int) (ok : Nat → Prop) (w : World) (hx : RdV ok w (valV x A c B d) x) (htl : t.length ≤ 16777216) :
    Calls Tryd.prog 35 #[.agg #[.int .i64 11, .string ⟨t.toArray⟩, .int .i64 x.kind, .int .i64 x.num, .string ⟨x.str.toArray⟩, .slice A x.parts.length c, .slice B x.keys.length d, .bool f, .slice K m e, .int .i64 a]] w fun e1 w' => e1 = .returned (.bool (saidText 11 t && (saidVal 11 x && (!f || decide ((11 : Int) = 2))))) ∧ Below w.heap.size w w' := by
  have hsz : (⟨t.toArray⟩ : ByteArray).size ≤ 9223372036854775807 := by
    show t.toArray.size ≤ _
    rw [List.size_toArray]; omega
  have HN := Lib.hid (fun W => lex_IsName ⟨t.toArray⟩ W hsz)
  have HV := Lib.hid hx
  clear hx hsz
  have HR := Lib.hid (fun (W : World) (vv : Value) (he : vv = valV x A c B d) (hv : RdV ok W (valV x A c B d) x) => he ▸ value_Right x (valV x A c B d) ok W hv)
  go_enter Tryd.func35, Tryd.ntmps35
  all_goals go_wp2_with (first | (go_at_call 51; refine (HR.out _ _ (by first | rfl | simp_all) (HV.out.below (two_al _ _ _))).mono ?_; rintro e2 w2 ⟨rfl, hb⟩; have HB2 := Lib.hid hb; obtain ⟨b0, b1, b2, b3, b4, b5, b6, b7, b8, b9⟩ := box10b hb; clear hb) | fail)
  all_goals (try go_wp2_with fail)
  all_goals go_ret
  all_goals (refine ⟨ret_bool ?_, by first | exact bthen (two_al _ _ _) HB2.out | exact (two_al _ _ _)⟩; clear HR HV; simp only [saidText, saidVal]; simp_all <;> omega)
set_option maxRecDepth 20000 in
set_option maxHeartbeats 4000000 in
theorem said_12 (t : List UInt8) (x : V) (A B K : Option Addr) (c d m e : Nat) (f : Bool) (a : Int) (ok : Nat → Prop) (w : World) (hx : RdV ok w (valV x A c B d) x) (htl : t.length ≤ 16777216) :
    Calls Tryd.prog 35 #[.agg #[.int .i64 12, .string ⟨t.toArray⟩, .int .i64 x.kind, .int .i64 x.num, .string ⟨x.str.toArray⟩, .slice A x.parts.length c, .slice B x.keys.length d, .bool f, .slice K m e, .int .i64 a]] w fun e1 w' => e1 = .returned (.bool (saidText 12 t && (saidVal 12 x && (!f || decide ((12 : Int) = 2))))) ∧ Below w.heap.size w w' := by
  have hsz : (⟨t.toArray⟩ : ByteArray).size ≤ 9223372036854775807 := by
    show t.toArray.size ≤ _
    rw [List.size_toArray]; omega
  have HN := Lib.hid (fun W => lex_IsName ⟨t.toArray⟩ W hsz)
  have HV := Lib.hid hx
  clear hx hsz
  have HR := Lib.hid (fun (W : World) (vv : Value) (he : vv = valV x A c B d) (hv : RdV ok W (valV x A c B d) x) => he ▸ value_Right x (valV x A c B d) ok W hv)
  go_enter Tryd.func35, Tryd.ntmps35
  all_goals go_wp2_with (first | (go_at_call 51; refine (HR.out _ _ (by first | rfl | simp_all) (HV.out.below (two_al _ _ _))).mono ?_; rintro e2 w2 ⟨rfl, hb⟩; have HB2 := Lib.hid hb; obtain ⟨b0, b1, b2, b3, b4, b5, b6, b7, b8, b9⟩ := box10b hb; clear hb) | fail)
  all_goals (try go_wp2_with fail)
  all_goals go_ret
  all_goals (refine ⟨ret_bool ?_, by first | exact bthen (two_al _ _ _) HB2.out | exact (two_al _ _ _)⟩; clear HR HV; simp only [saidText, saidVal]; simp_all <;> omega)
set_option maxRecDepth 20000 in
set_option maxHeartbeats 4000000 in
theorem said_13 (t : List UInt8) (x : V) (A B K : Option Addr) (c d m e : Nat) (f : Bool) (a : Int) (ok : Nat → Prop) (w : World) (hx : RdV ok w (valV x A c B d) x) (htl : t.length ≤ 16777216) :
    Calls Tryd.prog 35 #[.agg #[.int .i64 13, .string ⟨t.toArray⟩, .int .i64 x.kind, .int .i64 x.num, .string ⟨x.str.toArray⟩, .slice A x.parts.length c, .slice B x.keys.length d, .bool f, .slice K m e, .int .i64 a]] w fun e1 w' => e1 = .returned (.bool (saidText 13 t && (saidVal 13 x && (!f || decide ((13 : Int) = 2))))) ∧ Below w.heap.size w w' := by
  have hsz : (⟨t.toArray⟩ : ByteArray).size ≤ 9223372036854775807 := by
    show t.toArray.size ≤ _
    rw [List.size_toArray]; omega
  have HN := Lib.hid (fun W => lex_IsName ⟨t.toArray⟩ W hsz)
  have HV := Lib.hid hx
  clear hx hsz
  have HR := Lib.hid (fun (W : World) (vv : Value) (he : vv = valV x A c B d) (hv : RdV ok W (valV x A c B d) x) => he ▸ value_Right x (valV x A c B d) ok W hv)
  go_enter Tryd.func35, Tryd.ntmps35
  all_goals go_wp2_with (first | (go_at_call 51; refine (HR.out _ _ (by first | rfl | simp_all) (HV.out.below (two_al _ _ _))).mono ?_; rintro e2 w2 ⟨rfl, hb⟩; have HB2 := Lib.hid hb; obtain ⟨b0, b1, b2, b3, b4, b5, b6, b7, b8, b9⟩ := box10b hb; clear hb) | fail)
  all_goals (try go_wp2_with fail)
  all_goals go_ret
  all_goals (refine ⟨ret_bool ?_, by first | exact bthen (two_al _ _ _) HB2.out | exact (two_al _ _ _)⟩; clear HR HV; simp only [saidText, saidVal]; simp_all <;> omega)
set_option maxRecDepth 20000 in
set_option maxHeartbeats 4000000 in
theorem said_14 (t : List UInt8) (x : V) (A B K : Option Addr) (c d m e : Nat) (f : Bool) (a : Int) (ok : Nat → Prop) (w : World) (hx : RdV ok w (valV x A c B d) x) (htl : t.length ≤ 16777216) :
    Calls Tryd.prog 35 #[.agg #[.int .i64 14, .string ⟨t.toArray⟩, .int .i64 x.kind, .int .i64 x.num, .string ⟨x.str.toArray⟩, .slice A x.parts.length c, .slice B x.keys.length d, .bool f, .slice K m e, .int .i64 a]] w fun e1 w' => e1 = .returned (.bool (saidText 14 t && (saidVal 14 x && (!f || decide ((14 : Int) = 2))))) ∧ Below w.heap.size w w' := by
  have hsz : (⟨t.toArray⟩ : ByteArray).size ≤ 9223372036854775807 := by
    show t.toArray.size ≤ _
    rw [List.size_toArray]; omega
  have HN := Lib.hid (fun W => lex_IsName ⟨t.toArray⟩ W hsz)
  have HV := Lib.hid hx
  clear hx hsz
  have HR := Lib.hid (fun (W : World) (vv : Value) (he : vv = valV x A c B d) (hv : RdV ok W (valV x A c B d) x) => he ▸ value_Right x (valV x A c B d) ok W hv)
  go_enter Tryd.func35, Tryd.ntmps35
  go_wp2_with fail
  refine (HN.out _).mono ?_
  rintro e1 w1 ⟨rfl, hb⟩
  have HB := Lib.hid hb
  obtain ⟨b0, b1, b2, b3, b4, b5, b6, b7, b8, b9⟩ := box10 hb
  clear hb
  have z0 := fun X => bcell (one_al w1 X) b0
  have z1 := fun X => bcell (one_al w1 X) b1
  have z2 := fun X => bcell (one_al w1 X) b2
  have z3 := fun X => bcell (one_al w1 X) b3
  have z4 := fun X => bcell (one_al w1 X) b4
  have z5 := fun X => bcell (one_al w1 X) b5
  have z6 := fun X => bcell (one_al w1 X) b6
  have z7 := fun X => bcell (one_al w1 X) b7
  have z8 := fun X => bcell (one_al w1 X) b8
  have z9 := fun X => bcell (one_al w1 X) b9
  cases hnm : isNameB t
  all_goals have HNM := Lib.hid hnm
  all_goals clear hnm HN
  all_goals go_wp2_with (first | (go_at_call 51; refine (HR.out _ _ (by first | rfl | simp_all) (HV.out.below (bthen (bthen (one_al _ _) HB.out) (one_al _ _)))).mono ?_; rintro e2 w2 ⟨rfl, hb⟩; have HB2 := Lib.hid hb; obtain ⟨c0, c1, c2, c3, c4, c5, c6, c7, c8, c9⟩ := cells10 b0 b1 b2 b3 b4 b5 b6 b7 b8 b9 (bthen (one_al _ _) hb); clear hb) | fail)
  all_goals (try go_wp2_with fail)
  all_goals go_ret
  all_goals (refine ⟨ret_bool ?_, by first | exact bthen (bthen (bthen (one_al _ _) HB.out) (one_al _ _)) HB2.out | exact (bthen (bthen (one_al _ _) HB.out) (one_al _ _))⟩; have hnm := HNM.out; clear HNM; clear HR HV; simp only [saidText, saidVal]; simp_all <;> omega)
set_option maxRecDepth 20000 in
set_option maxHeartbeats 4000000 in
theorem said_15 (t : List UInt8) (x : V) (A B K : Option Addr) (c d m e : Nat) (f : Bool) (a : Int) (ok : Nat → Prop) (w : World) (hx : RdV ok w (valV x A c B d) x) (htl : t.length ≤ 16777216) :
    Calls Tryd.prog 35 #[.agg #[.int .i64 15, .string ⟨t.toArray⟩, .int .i64 x.kind, .int .i64 x.num, .string ⟨x.str.toArray⟩, .slice A x.parts.length c, .slice B x.keys.length d, .bool f, .slice K m e, .int .i64 a]] w fun e1 w' => e1 = .returned (.bool (saidText 15 t && (saidVal 15 x && (!f || decide ((15 : Int) = 2))))) ∧ Below w.heap.size w w' := by
  have hsz : (⟨t.toArray⟩ : ByteArray).size ≤ 9223372036854775807 := by
    show t.toArray.size ≤ _
    rw [List.size_toArray]; omega
  have HN := Lib.hid (fun W => lex_IsName ⟨t.toArray⟩ W hsz)
  have HV := Lib.hid hx
  clear hx hsz
  have HR := Lib.hid (fun (W : World) (vv : Value) (he : vv = valV x A c B d) (hv : RdV ok W (valV x A c B d) x) => he ▸ value_Right x (valV x A c B d) ok W hv)
  go_enter Tryd.func35, Tryd.ntmps35
  go_wp2_with fail
  refine (HN.out _).mono ?_
  rintro e1 w1 ⟨rfl, hb⟩
  have HB := Lib.hid hb
  obtain ⟨b0, b1, b2, b3, b4, b5, b6, b7, b8, b9⟩ := box10 hb
  clear hb
  have z0 := fun X => bcell (one_al w1 X) b0
  have z1 := fun X => bcell (one_al w1 X) b1
  have z2 := fun X => bcell (one_al w1 X) b2
  have z3 := fun X => bcell (one_al w1 X) b3
  have z4 := fun X => bcell (one_al w1 X) b4
  have z5 := fun X => bcell (one_al w1 X) b5
  have z6 := fun X => bcell (one_al w1 X) b6
  have z7 := fun X => bcell (one_al w1 X) b7
  have z8 := fun X => bcell (one_al w1 X) b8
  have z9 := fun X => bcell (one_al w1 X) b9
  cases hnm : isNameB t
  all_goals have HNM := Lib.hid hnm
  all_goals clear hnm HN
  all_goals go_wp2_with (first | (go_at_call 51; refine (HR.out _ _ (by first | rfl | simp_all) (HV.out.below (bthen (bthen (one_al _ _) HB.out) (one_al _ _)))).mono ?_; rintro e2 w2 ⟨rfl, hb⟩; have HB2 := Lib.hid hb; obtain ⟨c0, c1, c2, c3, c4, c5, c6, c7, c8, c9⟩ := cells10 b0 b1 b2 b3 b4 b5 b6 b7 b8 b9 (bthen (one_al _ _) hb); clear hb) | fail)
  all_goals (try go_wp2_with fail)
  all_goals go_ret
  all_goals (refine ⟨ret_bool ?_, by first | exact bthen (bthen (bthen (one_al _ _) HB.out) (one_al _ _)) HB2.out | exact (bthen (bthen (one_al _ _) HB.out) (one_al _ _))⟩; have hnm := HNM.out; clear HNM; clear HR HV; simp only [saidText, saidVal]; simp_all <;> omega)
set_option maxRecDepth 20000 in
set_option maxHeartbeats 4000000 in
theorem said_16 (t : List UInt8) (x : V) (A B K : Option Addr) (c d m e : Nat) (f : Bool) (a : Int) (ok : Nat → Prop) (w : World) (hx : RdV ok w (valV x A c B d) x) (htl : t.length ≤ 16777216) :
    Calls Tryd.prog 35 #[.agg #[.int .i64 16, .string ⟨t.toArray⟩, .int .i64 x.kind, .int .i64 x.num, .string ⟨x.str.toArray⟩, .slice A x.parts.length c, .slice B x.keys.length d, .bool f, .slice K m e, .int .i64 a]] w fun e1 w' => e1 = .returned (.bool (saidText 16 t && (saidVal 16 x && (!f || decide ((16 : Int) = 2))))) ∧ Below w.heap.size w w' := by
  have hsz : (⟨t.toArray⟩ : ByteArray).size ≤ 9223372036854775807 := by
    show t.toArray.size ≤ _
    rw [List.size_toArray]; omega
  have HN := Lib.hid (fun W => lex_IsName ⟨t.toArray⟩ W hsz)
  have HV := Lib.hid hx
  clear hx hsz
  have HR := Lib.hid (fun (W : World) (vv : Value) (he : vv = valV x A c B d) (hv : RdV ok W (valV x A c B d) x) => he ▸ value_Right x (valV x A c B d) ok W hv)
  go_enter Tryd.func35, Tryd.ntmps35
  all_goals go_wp2_with (first | (go_at_call 51; refine (HR.out _ _ (by first | rfl | simp_all) (HV.out.below (two_al _ _ _))).mono ?_; rintro e2 w2 ⟨rfl, hb⟩; have HB2 := Lib.hid hb; obtain ⟨b0, b1, b2, b3, b4, b5, b6, b7, b8, b9⟩ := box10b hb; clear hb) | fail)
  all_goals (try go_wp2_with fail)
  all_goals go_ret
  all_goals (refine ⟨ret_bool ?_, by first | exact bthen (two_al _ _ _) HB2.out | exact (two_al _ _ _)⟩; clear HR HV; simp only [saidText, saidVal]; simp_all <;> omega)
set_option maxRecDepth 20000 in
set_option maxHeartbeats 4000000 in
theorem said_17 (t : List UInt8) (x : V) (A B K : Option Addr) (c d m e : Nat) (f : Bool) (a : Int) (ok : Nat → Prop) (w : World) (hx : RdV ok w (valV x A c B d) x) (htl : t.length ≤ 16777216) :
    Calls Tryd.prog 35 #[.agg #[.int .i64 17, .string ⟨t.toArray⟩, .int .i64 x.kind, .int .i64 x.num, .string ⟨x.str.toArray⟩, .slice A x.parts.length c, .slice B x.keys.length d, .bool f, .slice K m e, .int .i64 a]] w fun e1 w' => e1 = .returned (.bool (saidText 17 t && (saidVal 17 x && (!f || decide ((17 : Int) = 2))))) ∧ Below w.heap.size w w' := by
  have hsz : (⟨t.toArray⟩ : ByteArray).size ≤ 9223372036854775807 := by
    show t.toArray.size ≤ _
    rw [List.size_toArray]; omega
  have HN := Lib.hid (fun W => lex_IsName ⟨t.toArray⟩ W hsz)
  have HV := Lib.hid hx
  clear hx hsz
  have HR := Lib.hid (fun (W : World) (vv : Value) (he : vv = valV x A c B d) (hv : RdV ok W (valV x A c B d) x) => he ▸ value_Right x (valV x A c B d) ok W hv)
  go_enter Tryd.func35, Tryd.ntmps35
  go_wp2_with fail
  refine (print_binds t _).mono ?_
  rintro e1 w1 ⟨rfl, rfl⟩
  all_goals go_wp2_with (first | (go_at_call 51; refine (HR.out _ _ (by first | rfl | simp_all) (HV.out.below (two_al _ _ _))).mono ?_; rintro e2 w2 ⟨rfl, hb⟩; have HB2 := Lib.hid hb; obtain ⟨b0, b1, b2, b3, b4, b5, b6, b7, b8, b9⟩ := box10b hb; clear hb) | fail)
  all_goals (try go_wp2_with fail)
  all_goals go_ret
  all_goals (refine ⟨ret_bool ?_, by first | exact bthen (two_al _ _ _) HB2.out | exact (two_al _ _ _)⟩; clear HR HV; simp only [saidText, saidVal]; simp_all <;> omega)
set_option maxRecDepth 20000 in
set_option maxHeartbeats 4000000 in
theorem said_18 (t : List UInt8) (x : V) (A B K : Option Addr) (c d m e : Nat) (f : Bool) (a : Int) (ok : Nat → Prop) (w : World) (hx : RdV ok w (valV x A c B d) x) (htl : t.length ≤ 16777216) :
    Calls Tryd.prog 35 #[.agg #[.int .i64 18, .string ⟨t.toArray⟩, .int .i64 x.kind, .int .i64 x.num, .string ⟨x.str.toArray⟩, .slice A x.parts.length c, .slice B x.keys.length d, .bool f, .slice K m e, .int .i64 a]] w fun e1 w' => e1 = .returned (.bool (saidText 18 t && (saidVal 18 x && (!f || decide ((18 : Int) = 2))))) ∧ Below w.heap.size w w' := by
  have hsz : (⟨t.toArray⟩ : ByteArray).size ≤ 9223372036854775807 := by
    show t.toArray.size ≤ _
    rw [List.size_toArray]; omega
  have HN := Lib.hid (fun W => lex_IsName ⟨t.toArray⟩ W hsz)
  have HV := Lib.hid hx
  clear hx hsz
  have HR := Lib.hid (fun (W : World) (vv : Value) (he : vv = valV x A c B d) (hv : RdV ok W (valV x A c B d) x) => he ▸ value_Right x (valV x A c B d) ok W hv)
  go_enter Tryd.func35, Tryd.ntmps35
  all_goals go_wp2_with (first | (go_at_call 51; refine (HR.out _ _ (by first | rfl | simp_all) (HV.out.below (two_al _ _ _))).mono ?_; rintro e2 w2 ⟨rfl, hb⟩; have HB2 := Lib.hid hb; obtain ⟨b0, b1, b2, b3, b4, b5, b6, b7, b8, b9⟩ := box10b hb; clear hb) | fail)
  all_goals (try go_wp2_with fail)
  all_goals go_ret
  all_goals (refine ⟨ret_bool ?_, by first | exact bthen (two_al _ _ _) HB2.out | exact (two_al _ _ _)⟩; clear HR HV; simp only [saidText, saidVal]; simp_all <;> omega)
set_option maxRecDepth 20000 in
set_option maxHeartbeats 4000000 in
theorem said_19 (t : List UInt8) (x : V) (A B K : Option Addr) (c d m e : Nat) (f : Bool) (a : Int) (ok : Nat → Prop) (w : World) (hx : RdV ok w (valV x A c B d) x) (htl : t.length ≤ 16777216) :
    Calls Tryd.prog 35 #[.agg #[.int .i64 19, .string ⟨t.toArray⟩, .int .i64 x.kind, .int .i64 x.num, .string ⟨x.str.toArray⟩, .slice A x.parts.length c, .slice B x.keys.length d, .bool f, .slice K m e, .int .i64 a]] w fun e1 w' => e1 = .returned (.bool (saidText 19 t && (saidVal 19 x && (!f || decide ((19 : Int) = 2))))) ∧ Below w.heap.size w w' := by
  have hsz : (⟨t.toArray⟩ : ByteArray).size ≤ 9223372036854775807 := by
    show t.toArray.size ≤ _
    rw [List.size_toArray]; omega
  have HN := Lib.hid (fun W => lex_IsName ⟨t.toArray⟩ W hsz)
  have HV := Lib.hid hx
  clear hx hsz
  have HR := Lib.hid (fun (W : World) (vv : Value) (he : vv = valV x A c B d) (hv : RdV ok W (valV x A c B d) x) => he ▸ value_Right x (valV x A c B d) ok W hv)
  go_enter Tryd.func35, Tryd.ntmps35
  all_goals go_wp2_with (first | (go_at_call 51; refine (HR.out _ _ (by first | rfl | simp_all) (HV.out.below (two_al _ _ _))).mono ?_; rintro e2 w2 ⟨rfl, hb⟩; have HB2 := Lib.hid hb; obtain ⟨b0, b1, b2, b3, b4, b5, b6, b7, b8, b9⟩ := box10b hb; clear hb) | fail)
  all_goals (try go_wp2_with fail)
  all_goals go_ret
  all_goals (refine ⟨ret_bool ?_, by first | exact bthen (two_al _ _ _) HB2.out | exact (two_al _ _ _)⟩; clear HR HV; simp only [saidText, saidVal]; simp_all <;> omega)
set_option maxRecDepth 20000 in
set_option maxHeartbeats 4000000 in
theorem said_20 (t : List UInt8) (x : V) (A B K : Option Addr) (c d m e : Nat) (f : Bool) (a : Int) (ok : Nat → Prop) (w : World) (hx : RdV ok w (valV x A c B d) x) (htl : t.length ≤ 16777216) :
    Calls Tryd.prog 35 #[.agg #[.int .i64 20, .string ⟨t.toArray⟩, .int .i64 x.kind, .int .i64 x.num, .string ⟨x.str.toArray⟩, .slice A x.parts.length c, .slice B x.keys.length d, .bool f, .slice K m e, .int .i64 a]] w fun e1 w' => e1 = .returned (.bool (saidText 20 t && (saidVal 20 x && (!f || decide ((20 : Int) = 2))))) ∧ Below w.heap.size w w' := by
  have hsz : (⟨t.toArray⟩ : ByteArray).size ≤ 9223372036854775807 := by
    show t.toArray.size ≤ _
    rw [List.size_toArray]; omega
  have HN := Lib.hid (fun W => lex_IsName ⟨t.toArray⟩ W hsz)
  have HV := Lib.hid hx
  clear hx hsz
  have HR := Lib.hid (fun (W : World) (vv : Value) (he : vv = valV x A c B d) (hv : RdV ok W (valV x A c B d) x) => he ▸ value_Right x (valV x A c B d) ok W hv)
  go_enter Tryd.func35, Tryd.ntmps35
  all_goals go_wp2_with (first | (go_at_call 51; refine (HR.out _ _ (by first | rfl | simp_all) (HV.out.below (two_al _ _ _))).mono ?_; rintro e2 w2 ⟨rfl, hb⟩; have HB2 := Lib.hid hb; obtain ⟨b0, b1, b2, b3, b4, b5, b6, b7, b8, b9⟩ := box10b hb; clear hb) | fail)
  all_goals (try go_wp2_with fail)
  all_goals go_ret
  all_goals (refine ⟨ret_bool ?_, by first | exact bthen (two_al _ _ _) HB2.out | exact (two_al _ _ _)⟩; clear HR HV; simp only [saidText, saidVal]; simp_all <;> omega)
set_option maxRecDepth 20000 in
set_option maxHeartbeats 4000000 in
theorem said_21 (t : List UInt8) (x : V) (A B K : Option Addr) (c d m e : Nat) (f : Bool) (a : Int) (ok : Nat → Prop) (w : World) (hx : RdV ok w (valV x A c B d) x) (htl : t.length ≤ 16777216) :
    Calls Tryd.prog 35 #[.agg #[.int .i64 21, .string ⟨t.toArray⟩, .int .i64 x.kind, .int .i64 x.num, .string ⟨x.str.toArray⟩, .slice A x.parts.length c, .slice B x.keys.length d, .bool f, .slice K m e, .int .i64 a]] w fun e1 w' => e1 = .returned (.bool (saidText 21 t && (saidVal 21 x && (!f || decide ((21 : Int) = 2))))) ∧ Below w.heap.size w w' := by
  have hsz : (⟨t.toArray⟩ : ByteArray).size ≤ 9223372036854775807 := by
    show t.toArray.size ≤ _
    rw [List.size_toArray]; omega
  have HN := Lib.hid (fun W => lex_IsName ⟨t.toArray⟩ W hsz)
  have HV := Lib.hid hx
  clear hx hsz
  have HR := Lib.hid (fun (W : World) (vv : Value) (he : vv = valV x A c B d) (hv : RdV ok W (valV x A c B d) x) => he ▸ value_Right x (valV x A c B d) ok W hv)
  go_enter Tryd.func35, Tryd.ntmps35
  all_goals go_wp2_with (first | (go_at_call 51; refine (HR.out _ _ (by first | rfl | simp_all) (HV.out.below (two_al _ _ _))).mono ?_; rintro e2 w2 ⟨rfl, hb⟩; have HB2 := Lib.hid hb; obtain ⟨b0, b1, b2, b3, b4, b5, b6, b7, b8, b9⟩ := box10b hb; clear hb) | fail)
  all_goals (try go_wp2_with fail)
  all_goals go_ret
  all_goals (refine ⟨ret_bool ?_, by first | exact bthen (two_al _ _ _) HB2.out | exact (two_al _ _ _)⟩; clear HR HV; simp only [saidText, saidVal]; simp_all <;> omega)
set_option maxRecDepth 20000 in
set_option maxHeartbeats 4000000 in
theorem said_22 (t : List UInt8) (x : V) (A B K : Option Addr) (c d m e : Nat) (f : Bool) (a : Int) (ok : Nat → Prop) (w : World) (hx : RdV ok w (valV x A c B d) x) (htl : t.length ≤ 16777216) :
    Calls Tryd.prog 35 #[.agg #[.int .i64 22, .string ⟨t.toArray⟩, .int .i64 x.kind, .int .i64 x.num, .string ⟨x.str.toArray⟩, .slice A x.parts.length c, .slice B x.keys.length d, .bool f, .slice K m e, .int .i64 a]] w fun e1 w' => e1 = .returned (.bool (saidText 22 t && (saidVal 22 x && (!f || decide ((22 : Int) = 2))))) ∧ Below w.heap.size w w' := by
  have hsz : (⟨t.toArray⟩ : ByteArray).size ≤ 9223372036854775807 := by
    show t.toArray.size ≤ _
    rw [List.size_toArray]; omega
  have HN := Lib.hid (fun W => lex_IsName ⟨t.toArray⟩ W hsz)
  have HV := Lib.hid hx
  clear hx hsz
  have HR := Lib.hid (fun (W : World) (vv : Value) (he : vv = valV x A c B d) (hv : RdV ok W (valV x A c B d) x) => he ▸ value_Right x (valV x A c B d) ok W hv)
  go_enter Tryd.func35, Tryd.ntmps35
  go_wp2_with fail
  refine (HN.out _).mono ?_
  rintro e1 w1 ⟨rfl, hb⟩
  have HB := Lib.hid hb
  obtain ⟨b0, b1, b2, b3, b4, b5, b6, b7, b8, b9⟩ := box10 hb
  clear hb
  have z0 := fun X => bcell (one_al w1 X) b0
  have z1 := fun X => bcell (one_al w1 X) b1
  have z2 := fun X => bcell (one_al w1 X) b2
  have z3 := fun X => bcell (one_al w1 X) b3
  have z4 := fun X => bcell (one_al w1 X) b4
  have z5 := fun X => bcell (one_al w1 X) b5
  have z6 := fun X => bcell (one_al w1 X) b6
  have z7 := fun X => bcell (one_al w1 X) b7
  have z8 := fun X => bcell (one_al w1 X) b8
  have z9 := fun X => bcell (one_al w1 X) b9
  cases hnm : isNameB t
  all_goals have HNM := Lib.hid hnm
  all_goals clear hnm HN
  all_goals go_wp2_with (first | (go_at_call 51; refine (HR.out _ _ (by first | rfl | simp_all) (HV.out.below (bthen (bthen (one_al _ _) HB.out) (one_al _ _)))).mono ?_; rintro e2 w2 ⟨rfl, hb⟩; have HB2 := Lib.hid hb; obtain ⟨c0, c1, c2, c3, c4, c5, c6, c7, c8, c9⟩ := cells10 b0 b1 b2 b3 b4 b5 b6 b7 b8 b9 (bthen (one_al _ _) hb); clear hb) | fail)
  all_goals (try go_wp2_with fail)
  all_goals go_ret
  all_goals (refine ⟨ret_bool ?_, by first | exact bthen (bthen (bthen (one_al _ _) HB.out) (one_al _ _)) HB2.out | exact (bthen (bthen (one_al _ _) HB.out) (one_al _ _))⟩; have hnm := HNM.out; clear HNM; clear HR HV; simp only [saidText, saidVal]; simp_all <;> omega)
theorem print_said (n : N) (h1 : 1 ≤ n.kind) (h22 : n.kind ≤ 22) (v : Value) (ok : Nat → Prop) (w : World) (hv : RdN ok w v n) :
    Calls Tryd.prog 35 #[v] w fun e1 w' => e1 = .returned (.bool (saidS n)) ∧ Below w.heap.size w w' := by
  obtain ⟨A, c, B, d, K, e, rfl, hn⟩ := hv.form
  cases n with
  | mk k t x f l a =>
  simp only [N.kind] at h1 h22
  have hk : k = 1 ∨ k = 2 ∨ k = 3 ∨ k = 4 ∨ k = 5 ∨ k = 6 ∨ k = 7 ∨ k = 8 ∨ k = 9 ∨ k = 10 ∨ k = 11 ∨ k = 12 ∨ k = 13 ∨ k = 14 ∨ k = 15 ∨ k = 16 ∨ k = 17 ∨ k = 18 ∨ k = 19 ∨ k = 20 ∨ k = 21 ∨ k = 22 := by omega
  have hl := hn.val
  have h3 := hn.text
  rcases hk with rfl | rfl | rfl | rfl | rfl | rfl | rfl | rfl | rfl | rfl | rfl | rfl | rfl | rfl | rfl | rfl | rfl | rfl | rfl | rfl | rfl | rfl
  · exact said_1 t x A B K c d l.length e f a ok w hl h3
  · exact said_2 t x A B K c d l.length e f a ok w hl h3
  · exact said_3 t x A B K c d l.length e f a ok w hl h3
  · exact said_4 t x A B K c d l.length e f a ok w hl h3
  · exact said_5 t x A B K c d l.length e f a ok w hl h3
  · exact said_6 t x A B K c d l.length e f a ok w hl h3
  · exact said_7 t x A B K c d l.length e f a ok w hl h3
  · exact said_8 t x A B K c d l.length e f a ok w hl h3
  · exact said_9 t x A B K c d l.length e f a ok w hl h3
  · exact said_10 t x A B K c d l.length e f a ok w hl h3
  · exact said_11 t x A B K c d l.length e f a ok w hl h3
  · exact said_12 t x A B K c d l.length e f a ok w hl h3
  · exact said_13 t x A B K c d l.length e f a ok w hl h3
  · exact said_14 t x A B K c d l.length e f a ok w hl h3
  · exact said_15 t x A B K c d l.length e f a ok w hl h3
  · exact said_16 t x A B K c d l.length e f a ok w hl h3
  · exact said_17 t x A B K c d l.length e f a ok w hl h3
  · exact said_18 t x A B K c d l.length e f a ok w hl h3
  · exact said_19 t x A B K c d l.length e f a ok w hl h3
  · exact said_20 t x A B K c d l.length e f a ok w hl h3
  · exact said_21 t x A B K c d l.length e f a ok w hl h3
  · exact said_22 t x A B K c d l.length e f a ok w hl h3
end Go.Proofs.YthlfeiiolafonaaDoor
