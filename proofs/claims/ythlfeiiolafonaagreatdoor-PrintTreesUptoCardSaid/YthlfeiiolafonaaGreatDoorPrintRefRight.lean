/- Contracts of the reference's plain (any kind), opens, right, Right. Printed by gen_rright.py. -/
import Derived.Test.YthlfeiiolafonaaGreatDoorPrintPlain
import Derived.Test.YthlfeiiolafonaaGreatDoorPrintKids
import Derived.Test.YthlfeiiolafonaaGreatDoorPrintBracket
import Derived.Test.YthlfeiiolafonaaGreatDoorPrintRight
set_option linter.unusedVariables false
set_option linter.unusedSimpArgs false
namespace Go.Proofs.YthlfeiiolafonaaGreatDoor
open Go.RowKit Go.IntWalk

set_option maxRecDepth 20000 in
set_option maxHeartbeats 4000000 in
theorem plain_0 (kk : Int) (hkk : kk < 1 ∨ 22 < kk) (t : List UInt8) (x : V) (A B K : Option Addr) (c d m e : Nat) (f : Bool) (a : Int) (w : World) :
    Calls Tryz.prog 50 #[.agg #[.int .i64 kk, .string ⟨t.toArray⟩, .int .i64 x.kind, .int .i64 x.num, .string ⟨x.str.toArray⟩, .slice A x.parts.length c, .slice B x.keys.length d, .bool f, .slice K m e, .int .i64 a]] w fun e1 w' => SomeB e1 ∧ Below w.heap.size w w' := by
  have hk1 : (kk == 1) = false := by rw [beq_eq_false_iff_ne]; omega
  have hk2 : (kk == 2) = false := by rw [beq_eq_false_iff_ne]; omega
  have hk3 : (kk == 3) = false := by rw [beq_eq_false_iff_ne]; omega
  have hk4 : (kk == 4) = false := by rw [beq_eq_false_iff_ne]; omega
  have hk5 : (kk == 5) = false := by rw [beq_eq_false_iff_ne]; omega
  have hk6 : (kk == 6) = false := by rw [beq_eq_false_iff_ne]; omega
  have hk7 : (kk == 7) = false := by rw [beq_eq_false_iff_ne]; omega
  have hk8 : (kk == 8) = false := by rw [beq_eq_false_iff_ne]; omega
  have hk9 : (kk == 9) = false := by rw [beq_eq_false_iff_ne]; omega
  have hk10 : (kk == 10) = false := by rw [beq_eq_false_iff_ne]; omega
  have hk11 : (kk == 11) = false := by rw [beq_eq_false_iff_ne]; omega
  have hk12 : (kk == 12) = false := by rw [beq_eq_false_iff_ne]; omega
  have hk13 : (kk == 13) = false := by rw [beq_eq_false_iff_ne]; omega
  have hk14 : (kk == 14) = false := by rw [beq_eq_false_iff_ne]; omega
  have hk15 : (kk == 15) = false := by rw [beq_eq_false_iff_ne]; omega
  have hk16 : (kk == 16) = false := by rw [beq_eq_false_iff_ne]; omega
  have hk17 : (kk == 17) = false := by rw [beq_eq_false_iff_ne]; omega
  have hk18 : (kk == 18) = false := by rw [beq_eq_false_iff_ne]; omega
  have hk19 : (kk == 19) = false := by rw [beq_eq_false_iff_ne]; omega
  have hk20 : (kk == 20) = false := by rw [beq_eq_false_iff_ne]; omega
  have hk21 : (kk == 21) = false := by rw [beq_eq_false_iff_ne]; omega
  have hk22 : (kk == 22) = false := by rw [beq_eq_false_iff_ne]; omega
  clear hkk
  go_enter Tryz.func50, Tryz.ntmps50
  go_wp2_with fail
  all_goals go_ret
  all_goals exact ⟨(show ∃ b, _ = Ending.returned (Value.bool b) from ⟨_, rfl⟩), one_al _ _⟩
theorem rf_plain_any (n : N) (v : Value) (ok : Nat → Prop) (w : World) (hv : RdN ok w v n) :
    Calls Tryz.prog 50 #[v] w fun e1 w' => (∃ b, e1 = .returned (.bool b) ∧ (1 ≤ n.kind → n.kind ≤ 22 → b = saidS n)) ∧ Below w.heap.size w w' := by
  by_cases hk : 1 ≤ n.kind ∧ n.kind ≤ 22
  · exact (rf_plain n hk.1 hk.2 v ok w hv).mono fun e1 w1 h => ⟨⟨_, h.1, fun _ _ => rfl⟩, h.2⟩
  · obtain ⟨A, c, B, d, K, e, rfl, hn⟩ := hv.form
    exact (plain_0 n.kind (by omega) n.text n.val A B K c d _ e n.flag n.spot w).mono fun e1 w1 h => ⟨⟨_, h.1.choose_spec, fun h1 h2 => absurd ⟨h1, h2⟩ hk⟩, h.2⟩
/-- how many more are open about a kid -/
def opensS (n : N) (i : Nat) (kid : N) : Nat := (if openK n.kind = 1 then 1 else if n.kind = 21 then i else 0) + (if exprK n.kind = true ∧ n.kind ≠ 19 ∧ wrapS n i kid = true then 1 else 0)
theorem opensS_eq (n : N) (i : Nat) (kid : N) (h : n.kind = 21 → i ≤ 1) : opensS n i kid = openK n.kind + innerK n.kind n.text (bindingS kid) i := by
  unfold opensS innerK
  by_cases h21 : n.kind = 21
  · have hi := h h21
    have h1 : openK n.kind = 0 := by rw [h21]; rfl
    rw [h1, if_neg (by decide), if_pos h21, Nat.zero_add]
    by_cases hi1 : i = 1
    · subst hi1
      have hw : wrapS n 1 kid = false := by unfold wrapS wrapK; rw [h21]; simp
      rw [hw, if_neg (by simp), if_pos (Or.inl ⟨h21, rfl⟩)]
    · have hi0 : i = 0 := by omega
      subst hi0
      rw [Nat.zero_add]
      have : ((n.kind = 21 ∧ (0 : Nat) = 1) ∨ (exprK n.kind = true ∧ n.kind ≠ 19 ∧ wrapK n.kind n.text (bindingS kid) 0 = true)) ↔ (exprK n.kind = true ∧ n.kind ≠ 19 ∧ wrapS n 0 kid = true) := by
        unfold wrapS
        constructor
        · rintro (⟨_, h⟩ | h)
          · exact absurd h (by decide)
          · exact h
        · exact Or.inr
      simp only [this]
  · have : ((n.kind = 21 ∧ i = 1) ∨ (exprK n.kind = true ∧ n.kind ≠ 19 ∧ wrapK n.kind n.text (bindingS kid) i = true)) ↔ (exprK n.kind = true ∧ n.kind ≠ 19 ∧ wrapS n i kid = true) := by
      unfold wrapS
      constructor
      · rintro (⟨h, _⟩ | h)
        · exact absurd h h21
        · exact h
      · exact Or.inr
    simp only [this, if_neg h21]
    congr 1
    unfold openK
    split <;> simp_all
theorem opensS_le (n : N) (i : Nat) (kid : N) (h : n.kind = 21 → i ≤ 1) : opensS n i kid ≤ 2 := by
  rw [opensS_eq n i kid h]
  unfold openK innerK
  split <;> split <;> omega

set_option maxRecDepth 20000 in
set_option maxHeartbeats 4000000 in
theorem opens_4 (t : List UInt8) (x : V) (A B K : Option Addr) (c d e : Nat) (f : Bool) (l : List N) (a : Int) (i : Nat) (hi : i < l.length) (hlen : l.length ≤ 16777216) (ok : Nat → Prop) (w : World) (hv : RdN ok w (.agg #[.int .i64 4, .string ⟨t.toArray⟩, .int .i64 x.kind, .int .i64 x.num, .string ⟨x.str.toArray⟩, .slice A x.parts.length c, .slice B x.keys.length d, .bool f, .slice K l.length e, .int .i64 a]) (N.mk 4 t x f l a)) :
    Calls Tryz.prog 52 #[.agg #[.int .i64 4, .string ⟨t.toArray⟩, .int .i64 x.kind, .int .i64 x.num, .string ⟨x.str.toArray⟩, .slice A x.parts.length c, .slice B x.keys.length d, .bool f, .slice K l.length e, .int .i64 a], .int .i64 (i : Int)] w fun e1 w' => e1 = .returned (.int .i64 (opensS (N.mk 4 t x f l a) i l[i] : Nat)) ∧ Below w.heap.size w w' := by
  have HV := Lib.hid hv
  have HB := Lib.hid (fun W hv => rf_bracket (N.mk 4 t x f l a) i hi (.agg #[.int .i64 4, .string ⟨t.toArray⟩, .int .i64 x.kind, .int .i64 x.num, .string ⟨x.str.toArray⟩, .slice A x.parts.length c, .slice B x.keys.length d, .bool f, .slice K l.length e, .int .i64 a]) ok W hv)
  have hi0 : (0 : Int) ≤ (i : Int) := by omega
  have hi1 : (i : Int) ≤ 16777216 := by omega
  clear hv
  simp only [N.kids] at HB
  have hop : opensS (N.mk 4 t x f l a) i l[i] = 1 := by simp [opensS, openK, N.kind, exprK]
  have HO := Lib.hid hop
  clear hop
  generalize wrapS (N.mk 4 t x f l a) i l[i] = wb at *
  generalize opensS (N.mk 4 t x f l a) i l[i] = p at *
  go_enter Tryz.func52, Tryz.ntmps52
  go_wp2_with fail
  refine (rf_IsExpr 4 _).mono ?_
  rintro e1 w1 ⟨rfl, rfl⟩
  rw [show exprK 4 = false from rfl]
  go_wp2_with fail
  go_ret
  exact ⟨ret_int (by rw [HO.out]; rfl), one_al _ _⟩
set_option maxRecDepth 20000 in
set_option maxHeartbeats 4000000 in
theorem opens_15 (t : List UInt8) (x : V) (A B K : Option Addr) (c d e : Nat) (f : Bool) (l : List N) (a : Int) (i : Nat) (hi : i < l.length) (hlen : l.length ≤ 16777216) (ok : Nat → Prop) (w : World) (hv : RdN ok w (.agg #[.int .i64 15, .string ⟨t.toArray⟩, .int .i64 x.kind, .int .i64 x.num, .string ⟨x.str.toArray⟩, .slice A x.parts.length c, .slice B x.keys.length d, .bool f, .slice K l.length e, .int .i64 a]) (N.mk 15 t x f l a)) :
    Calls Tryz.prog 52 #[.agg #[.int .i64 15, .string ⟨t.toArray⟩, .int .i64 x.kind, .int .i64 x.num, .string ⟨x.str.toArray⟩, .slice A x.parts.length c, .slice B x.keys.length d, .bool f, .slice K l.length e, .int .i64 a], .int .i64 (i : Int)] w fun e1 w' => e1 = .returned (.int .i64 (opensS (N.mk 15 t x f l a) i l[i] : Nat)) ∧ Below w.heap.size w w' := by
  have HV := Lib.hid hv
  have HB := Lib.hid (fun W hv => rf_bracket (N.mk 15 t x f l a) i hi (.agg #[.int .i64 15, .string ⟨t.toArray⟩, .int .i64 x.kind, .int .i64 x.num, .string ⟨x.str.toArray⟩, .slice A x.parts.length c, .slice B x.keys.length d, .bool f, .slice K l.length e, .int .i64 a]) ok W hv)
  have hi0 : (0 : Int) ≤ (i : Int) := by omega
  have hi1 : (i : Int) ≤ 16777216 := by omega
  clear hv
  simp only [N.kids] at HB
  have hop : opensS (N.mk 15 t x f l a) i l[i] = 1 + (if wrapS (N.mk 15 t x f l a) i l[i] = true then 1 else 0) := by simp [opensS, openK, N.kind, exprK]
  have HO := Lib.hid hop
  clear hop
  generalize wrapS (N.mk 15 t x f l a) i l[i] = wb at *
  generalize opensS (N.mk 15 t x f l a) i l[i] = p at *
  go_enter Tryz.func52, Tryz.ntmps52
  go_wp2_with fail
  refine (rf_IsExpr 15 _).mono ?_
  rintro e1 w1 ⟨rfl, rfl⟩
  rw [show exprK 15 = true from rfl]
  go_wp2_with fail
  refine (HB.out _ (HV.out.below (one_al _ _))).mono ?_
  rintro e1 w1 ⟨rfl, hb⟩
  have HB1 := Lib.hid (bthen (one_al _ _) hb)
  clear hb
  cases wb
  all_goals
    go_wp2_with fail
    go_ret
    exact ⟨ret_int (by rw [HO.out]; simp), HB1.out⟩
set_option maxRecDepth 20000 in
set_option maxHeartbeats 4000000 in
theorem opens_16 (t : List UInt8) (x : V) (A B K : Option Addr) (c d e : Nat) (f : Bool) (l : List N) (a : Int) (i : Nat) (hi : i < l.length) (hlen : l.length ≤ 16777216) (ok : Nat → Prop) (w : World) (hv : RdN ok w (.agg #[.int .i64 16, .string ⟨t.toArray⟩, .int .i64 x.kind, .int .i64 x.num, .string ⟨x.str.toArray⟩, .slice A x.parts.length c, .slice B x.keys.length d, .bool f, .slice K l.length e, .int .i64 a]) (N.mk 16 t x f l a)) :
    Calls Tryz.prog 52 #[.agg #[.int .i64 16, .string ⟨t.toArray⟩, .int .i64 x.kind, .int .i64 x.num, .string ⟨x.str.toArray⟩, .slice A x.parts.length c, .slice B x.keys.length d, .bool f, .slice K l.length e, .int .i64 a], .int .i64 (i : Int)] w fun e1 w' => e1 = .returned (.int .i64 (opensS (N.mk 16 t x f l a) i l[i] : Nat)) ∧ Below w.heap.size w w' := by
  have HV := Lib.hid hv
  have HB := Lib.hid (fun W hv => rf_bracket (N.mk 16 t x f l a) i hi (.agg #[.int .i64 16, .string ⟨t.toArray⟩, .int .i64 x.kind, .int .i64 x.num, .string ⟨x.str.toArray⟩, .slice A x.parts.length c, .slice B x.keys.length d, .bool f, .slice K l.length e, .int .i64 a]) ok W hv)
  have hi0 : (0 : Int) ≤ (i : Int) := by omega
  have hi1 : (i : Int) ≤ 16777216 := by omega
  clear hv
  simp only [N.kids] at HB
  have hop : opensS (N.mk 16 t x f l a) i l[i] = 1 + (if wrapS (N.mk 16 t x f l a) i l[i] = true then 1 else 0) := by simp [opensS, openK, N.kind, exprK]
  have HO := Lib.hid hop
  clear hop
  generalize wrapS (N.mk 16 t x f l a) i l[i] = wb at *
  generalize opensS (N.mk 16 t x f l a) i l[i] = p at *
  go_enter Tryz.func52, Tryz.ntmps52
  go_wp2_with fail
  refine (rf_IsExpr 16 _).mono ?_
  rintro e1 w1 ⟨rfl, rfl⟩
  rw [show exprK 16 = true from rfl]
  go_wp2_with fail
  refine (HB.out _ (HV.out.below (one_al _ _))).mono ?_
  rintro e1 w1 ⟨rfl, hb⟩
  have HB1 := Lib.hid (bthen (one_al _ _) hb)
  clear hb
  cases wb
  all_goals
    go_wp2_with fail
    go_ret
    exact ⟨ret_int (by rw [HO.out]; simp), HB1.out⟩
set_option maxRecDepth 20000 in
set_option maxHeartbeats 4000000 in
theorem opens_18 (t : List UInt8) (x : V) (A B K : Option Addr) (c d e : Nat) (f : Bool) (l : List N) (a : Int) (i : Nat) (hi : i < l.length) (hlen : l.length ≤ 16777216) (ok : Nat → Prop) (w : World) (hv : RdN ok w (.agg #[.int .i64 18, .string ⟨t.toArray⟩, .int .i64 x.kind, .int .i64 x.num, .string ⟨x.str.toArray⟩, .slice A x.parts.length c, .slice B x.keys.length d, .bool f, .slice K l.length e, .int .i64 a]) (N.mk 18 t x f l a)) :
    Calls Tryz.prog 52 #[.agg #[.int .i64 18, .string ⟨t.toArray⟩, .int .i64 x.kind, .int .i64 x.num, .string ⟨x.str.toArray⟩, .slice A x.parts.length c, .slice B x.keys.length d, .bool f, .slice K l.length e, .int .i64 a], .int .i64 (i : Int)] w fun e1 w' => e1 = .returned (.int .i64 (opensS (N.mk 18 t x f l a) i l[i] : Nat)) ∧ Below w.heap.size w w' := by
  have HV := Lib.hid hv
  have HB := Lib.hid (fun W hv => rf_bracket (N.mk 18 t x f l a) i hi (.agg #[.int .i64 18, .string ⟨t.toArray⟩, .int .i64 x.kind, .int .i64 x.num, .string ⟨x.str.toArray⟩, .slice A x.parts.length c, .slice B x.keys.length d, .bool f, .slice K l.length e, .int .i64 a]) ok W hv)
  have hi0 : (0 : Int) ≤ (i : Int) := by omega
  have hi1 : (i : Int) ≤ 16777216 := by omega
  clear hv
  simp only [N.kids] at HB
  have hop : opensS (N.mk 18 t x f l a) i l[i] = 1 + (if wrapS (N.mk 18 t x f l a) i l[i] = true then 1 else 0) := by simp [opensS, openK, N.kind, exprK]
  have HO := Lib.hid hop
  clear hop
  generalize wrapS (N.mk 18 t x f l a) i l[i] = wb at *
  generalize opensS (N.mk 18 t x f l a) i l[i] = p at *
  go_enter Tryz.func52, Tryz.ntmps52
  go_wp2_with fail
  refine (rf_IsExpr 18 _).mono ?_
  rintro e1 w1 ⟨rfl, rfl⟩
  rw [show exprK 18 = true from rfl]
  go_wp2_with fail
  refine (HB.out _ (HV.out.below (one_al _ _))).mono ?_
  rintro e1 w1 ⟨rfl, hb⟩
  have HB1 := Lib.hid (bthen (one_al _ _) hb)
  clear hb
  cases wb
  all_goals
    go_wp2_with fail
    go_ret
    exact ⟨ret_int (by rw [HO.out]; simp), HB1.out⟩
set_option maxRecDepth 20000 in
set_option maxHeartbeats 4000000 in
theorem opens_19 (t : List UInt8) (x : V) (A B K : Option Addr) (c d e : Nat) (f : Bool) (l : List N) (a : Int) (i : Nat) (hi : i < l.length) (hlen : l.length ≤ 16777216) (ok : Nat → Prop) (w : World) (hv : RdN ok w (.agg #[.int .i64 19, .string ⟨t.toArray⟩, .int .i64 x.kind, .int .i64 x.num, .string ⟨x.str.toArray⟩, .slice A x.parts.length c, .slice B x.keys.length d, .bool f, .slice K l.length e, .int .i64 a]) (N.mk 19 t x f l a)) :
    Calls Tryz.prog 52 #[.agg #[.int .i64 19, .string ⟨t.toArray⟩, .int .i64 x.kind, .int .i64 x.num, .string ⟨x.str.toArray⟩, .slice A x.parts.length c, .slice B x.keys.length d, .bool f, .slice K l.length e, .int .i64 a], .int .i64 (i : Int)] w fun e1 w' => e1 = .returned (.int .i64 (opensS (N.mk 19 t x f l a) i l[i] : Nat)) ∧ Below w.heap.size w w' := by
  have HV := Lib.hid hv
  have HB := Lib.hid (fun W hv => rf_bracket (N.mk 19 t x f l a) i hi (.agg #[.int .i64 19, .string ⟨t.toArray⟩, .int .i64 x.kind, .int .i64 x.num, .string ⟨x.str.toArray⟩, .slice A x.parts.length c, .slice B x.keys.length d, .bool f, .slice K l.length e, .int .i64 a]) ok W hv)
  have hi0 : (0 : Int) ≤ (i : Int) := by omega
  have hi1 : (i : Int) ≤ 16777216 := by omega
  clear hv
  simp only [N.kids] at HB
  have hop : opensS (N.mk 19 t x f l a) i l[i] = 1 := by simp [opensS, openK, N.kind, exprK]
  have HO := Lib.hid hop
  clear hop
  generalize wrapS (N.mk 19 t x f l a) i l[i] = wb at *
  generalize opensS (N.mk 19 t x f l a) i l[i] = p at *
  go_enter Tryz.func52, Tryz.ntmps52
  go_wp2_with fail
  refine (rf_IsExpr 19 _).mono ?_
  rintro e1 w1 ⟨rfl, rfl⟩
  rw [show exprK 19 = true from rfl]
  go_wp2_with fail
  go_ret
  exact ⟨ret_int (by rw [HO.out]; rfl), one_al _ _⟩
set_option maxRecDepth 20000 in
set_option maxHeartbeats 4000000 in
theorem opens_21 (t : List UInt8) (x : V) (A B K : Option Addr) (c d e : Nat) (f : Bool) (l : List N) (a : Int) (i : Nat) (hi : i < l.length) (hlen : l.length ≤ 16777216) (ok : Nat → Prop) (w : World) (hv : RdN ok w (.agg #[.int .i64 21, .string ⟨t.toArray⟩, .int .i64 x.kind, .int .i64 x.num, .string ⟨x.str.toArray⟩, .slice A x.parts.length c, .slice B x.keys.length d, .bool f, .slice K l.length e, .int .i64 a]) (N.mk 21 t x f l a)) :
    Calls Tryz.prog 52 #[.agg #[.int .i64 21, .string ⟨t.toArray⟩, .int .i64 x.kind, .int .i64 x.num, .string ⟨x.str.toArray⟩, .slice A x.parts.length c, .slice B x.keys.length d, .bool f, .slice K l.length e, .int .i64 a], .int .i64 (i : Int)] w fun e1 w' => e1 = .returned (.int .i64 (opensS (N.mk 21 t x f l a) i l[i] : Nat)) ∧ Below w.heap.size w w' := by
  have HV := Lib.hid hv
  have HB := Lib.hid (fun W hv => rf_bracket (N.mk 21 t x f l a) i hi (.agg #[.int .i64 21, .string ⟨t.toArray⟩, .int .i64 x.kind, .int .i64 x.num, .string ⟨x.str.toArray⟩, .slice A x.parts.length c, .slice B x.keys.length d, .bool f, .slice K l.length e, .int .i64 a]) ok W hv)
  have hi0 : (0 : Int) ≤ (i : Int) := by omega
  have hi1 : (i : Int) ≤ 16777216 := by omega
  clear hv
  simp only [N.kids] at HB
  have hop : opensS (N.mk 21 t x f l a) i l[i] = i + (if wrapS (N.mk 21 t x f l a) i l[i] = true then 1 else 0) := by simp [opensS, openK, N.kind, exprK]
  have HO := Lib.hid hop
  clear hop
  generalize wrapS (N.mk 21 t x f l a) i l[i] = wb at *
  generalize opensS (N.mk 21 t x f l a) i l[i] = p at *
  go_enter Tryz.func52, Tryz.ntmps52
  go_wp2_with fail
  refine (rf_IsExpr 21 _).mono ?_
  rintro e1 w1 ⟨rfl, rfl⟩
  rw [show exprK 21 = true from rfl]
  go_wp2_with fail
  refine (HB.out _ (HV.out.below (one_al _ _))).mono ?_
  rintro e1 w1 ⟨rfl, hb⟩
  have HB1 := Lib.hid (bthen (one_al _ _) hb)
  clear hb
  cases wb
  all_goals
    go_wp2_with fail
    go_ret
    exact ⟨ret_int (by rw [HO.out]; simp), HB1.out⟩
set_option maxRecDepth 20000 in
set_option maxHeartbeats 4000000 in
theorem opens_0 (kk : Int) (h4 : (kk == 4) = false) (h15 : (kk == 15) = false) (h16 : (kk == 16) = false) (h18 : (kk == 18) = false) (h19 : (kk == 19) = false) (h21 : (kk == 21) = false) (t : List UInt8) (x : V) (A B K : Option Addr) (c d e : Nat) (f : Bool) (l : List N) (a : Int) (i : Nat) (hi : i < l.length) (hlen : l.length ≤ 16777216) (ok : Nat → Prop) (w : World) (hv : RdN ok w (.agg #[.int .i64 kk, .string ⟨t.toArray⟩, .int .i64 x.kind, .int .i64 x.num, .string ⟨x.str.toArray⟩, .slice A x.parts.length c, .slice B x.keys.length d, .bool f, .slice K l.length e, .int .i64 a]) (N.mk kk t x f l a)) :
    Calls Tryz.prog 52 #[.agg #[.int .i64 kk, .string ⟨t.toArray⟩, .int .i64 x.kind, .int .i64 x.num, .string ⟨x.str.toArray⟩, .slice A x.parts.length c, .slice B x.keys.length d, .bool f, .slice K l.length e, .int .i64 a], .int .i64 (i : Int)] w fun e1 w' => e1 = .returned (.int .i64 (opensS (N.mk kk t x f l a) i l[i] : Nat)) ∧ Below w.heap.size w w' := by
  have HV := Lib.hid hv
  have HB := Lib.hid (fun W hv => rf_bracket (N.mk kk t x f l a) i hi (.agg #[.int .i64 kk, .string ⟨t.toArray⟩, .int .i64 x.kind, .int .i64 x.num, .string ⟨x.str.toArray⟩, .slice A x.parts.length c, .slice B x.keys.length d, .bool f, .slice K l.length e, .int .i64 a]) ok W hv)
  have hi0 : (0 : Int) ≤ (i : Int) := by omega
  have hi1 : (i : Int) ≤ 16777216 := by omega
  clear hv
  simp only [N.kids] at HB
  have hop : opensS (N.mk kk t x f l a) i l[i] = (if exprK kk = true ∧ wrapS (N.mk kk t x f l a) i l[i] = true then 1 else 0) := by simp_all [opensS, openK, N.kind]
  have HO := Lib.hid hop
  clear hop
  generalize wrapS (N.mk kk t x f l a) i l[i] = wb at *
  generalize opensS (N.mk kk t x f l a) i l[i] = p at *
  go_enter Tryz.func52, Tryz.ntmps52
  go_wp2_with fail
  refine (rf_IsExpr kk _).mono ?_
  rintro e1 w1 ⟨rfl, rfl⟩
  have h19' : (kk != 19) = true := by simpa using h19
  cases hek : exprK kk with
  | false =>
    have HE := Lib.hid hek
    clear hek
    go_wp2_with fail
    go_ret
    exact ⟨ret_int (by rw [HO.out, HE.out]; simp), one_al _ _⟩
  | true =>
    have HE := Lib.hid hek
    clear hek
    go_wp2_with fail
    refine (HB.out _ (HV.out.below (one_al _ _))).mono ?_
    rintro e1 w1 ⟨rfl, hb⟩
    have HB1 := Lib.hid (bthen (one_al _ _) hb)
    clear hb
    cases wb
    all_goals
      go_wp2_with fail
      go_ret
      exact ⟨ret_int (by rw [HO.out, HE.out]; simp), HB1.out⟩
theorem rf_opens (n : N) (i : Nat) (hi : i < n.kids.length) (v : Value) (ok : Nat → Prop) (w : World) (hv : RdN ok w v n) :
    Calls Tryz.prog 52 #[v, .int .i64 (i : Int)] w fun e1 w' => e1 = .returned (.int .i64 (opensS n i n.kids[i] : Nat)) ∧ Below w.heap.size w w' := by
  obtain ⟨A, c, B, d, K, e, rfl, hn⟩ := hv.form
  have h3 := hn.len
  cases n with
  | mk k t x f l a =>
  by_cases h4 : k = 4
  · subst h4; exact opens_4 t x A B K c d e f l a i hi h3 ok w hv
  by_cases h15 : k = 15
  · subst h15; exact opens_15 t x A B K c d e f l a i hi h3 ok w hv
  by_cases h16 : k = 16
  · subst h16; exact opens_16 t x A B K c d e f l a i hi h3 ok w hv
  by_cases h18 : k = 18
  · subst h18; exact opens_18 t x A B K c d e f l a i hi h3 ok w hv
  by_cases h19 : k = 19
  · subst h19; exact opens_19 t x A B K c d e f l a i hi h3 ok w hv
  by_cases h21 : k = 21
  · subst h21; exact opens_21 t x A B K c d e f l a i hi h3 ok w hv
  exact opens_0 k (by simpa using h4) (by simpa using h15) (by simpa using h16) (by simpa using h18) (by simpa using h19) (by simpa using h21) t x A B K c d e f l a i hi h3 ok w hv
def selfK (k : Int) (m : Nat) : Nat := if m = 0 ∧ (k = 4 ∨ k = 15 ∨ k = 18 ∨ k = 19) then 1 else 0
theorem rightNs_one {k : Int} {t : List UInt8} {o i : Nat} {x : N} {l : List N} (h : rightNs k t o i (x :: l) = true) : o ≤ 24 := by
  rw [rightNs, Bool.and_eq_true] at h
  have := of_decide_eq_true h.1
  omega
theorem self_aux (o : Nat) (k : Int) (t : List UInt8) (l : List N) (h16 : l = [] → k ≠ 16) : (decide (o + openK k ≤ 24) && rightNs k t (o + openK k) 0 l) = (decide (o + selfK k l.length ≤ 24) && rightNs k t (o + openK k) 0 l) := by
  cases l with
  | nil =>
    have hs : openK k = selfK k ([] : List N).length := by
      have h16 := h16 rfl
      unfold openK selfK
      by_cases h4 : k = 4 <;> by_cases h15 : k = 15 <;> by_cases h18 : k = 18 <;> by_cases h19 : k = 19 <;> simp_all
    rw [hs]
  | cons y l =>
    have hs : selfK k (y :: l).length = 0 := by simp [selfK]
    rw [hs]
    cases hr : rightNs k t (o + openK k) 0 (y :: l) with
    | false => simp
    | true =>
      have := rightNs_one hr
      simp
      omega
theorem rightN_self {o : Nat} {n : N} (h : headS n = true) : rightN o n = (decide (o + selfK n.kind n.kids.length ≤ 24) && rightNs n.kind n.text (o + openK n.kind) 0 n.kids) := by
  rw [rightN_rest h]
  refine self_aux o n.kind n.text n.kids fun hl h16 => ?_
  unfold headS at h
  simp only [Bool.and_eq_true] at h
  have := h.2.2.2
  rw [h16, hl] at this
  simp [shapeK] at this
theorem head_no {n : N} {b1 b2 : Bool} (h1 : 1 ≤ n.kind → n.kind ≤ 22 → b1 = saidS n) (h2 : 1 ≤ n.kind → n.kind ≤ 22 → b2 = shapeK n.kind (n.kids.map N.kind)) (h : b1 = false ∨ b2 = false ∨ n.kind < 1 ∨ 22 < n.kind) : headS n = false := by
  unfold headS
  by_cases hk : 1 ≤ n.kind ∧ n.kind ≤ 22
  · have e1 := h1 hk.1 hk.2
    have e2 := h2 hk.1 hk.2
    rcases h with h | h | h | h
    · rw [← e1, h]; simp
    · rw [← e2, h]; simp
    · omega
    · omega
  · rw [Bool.eq_false_iff]
    intro hh
    simp only [Bool.and_eq_true, decide_eq_true_eq] at hh
    exact hk ⟨hh.1, hh.2.1⟩
theorem head_yes {n : N} {b1 b2 : Bool} (h1 : 1 ≤ n.kind → n.kind ≤ 22 → b1 = saidS n) (h2 : 1 ≤ n.kind → n.kind ≤ 22 → b2 = shapeK n.kind (n.kids.map N.kind)) (e1 : b1 = true) (e2 : b2 = true) (k1 : ¬ n.kind < 1) (k2 : ¬ 22 < n.kind) : headS n = true := by
  unfold headS
  rw [← h1 (by omega) (by omega), ← h2 (by omega) (by omega), e1, e2]
  simp
  omega
theorem head_at {n : N} (h : headS n = true) (h21 : n.kind = 21) : n.kids.length = 2 := by
  unfold headS at h
  simp only [Bool.and_eq_true] at h
  have := h.2.2.2
  rw [h21] at this
  simp [shapeK] at this
  exact this.1
set_option maxRecDepth 20000 in
set_option maxHeartbeats 8000000 in
theorem rf_right (m : Nat) : ∀ (n : N) (v : Value) (ok : Nat → Prop) (w : World) (o : Nat) (hv : RdN ok w v n) (hm : SizeOf.sizeOf n ≤ m) (ho : o ≤ 24),
    Calls Tryz.prog 29 #[v, .int .i64 (o : Int)] w fun e1 w' => e1 = .returned (.bool (rightN o n)) ∧ Below w.heap.size w w' := by
  induction m using Nat.strongRecOn with
  | _ m ih =>
  intro n v ok w o hv hm ho
  obtain ⟨A, c, B, d, K, e, rfl, hn⟩ := hv.form
  have HL := Lib.hid hn.kids
  have hlen := hn.len
  have hcap := hn.cap
  have hmost := hn.most
  have Hm := Lib.hid hm
  have Hih := Lib.hid ih
  have ho1 : (o : Int) ≤ 24 := by omega
  have ho0 : (0 : Int) ≤ (o : Int) := by omega
  have HP := Lib.hid hn.rd
  have HS := Lib.hid (fun W hv => rf_plain_any n (valN n A c B d K e) ok W hv)
  have HK := Lib.hid (fun W hv => rf_kids n (valN n A c B d K e) ok W hv)
  clear hv hn hm ih ho
  go_enter Tryz.func29, Tryz.ntmps29
  go_wp2_with fail
  refine (HS.out _ (HP.out.below (one_al _ _))).mono ?_
  rintro e1 w1 ⟨⟨b1, rfl, hb1⟩, hb⟩
  have HB := Lib.hid hb
  have HB1 := Lib.hid hb1
  obtain ⟨q0, q1, q2, q3, q4, q5, q6, q7, q8, q9⟩ := box10 hb
  clear hb hb1
  go_wp2_with fail
  refine (HK.out _ (HP.out.below (bthen (one_al _ _) HB.out))).mono ?_
  rintro e2 w2 ⟨⟨b2, rfl, hb2⟩, hb⟩
  have HBX := Lib.hid (bthen HB.out hb)
  have HB2 := Lib.hid hb2
  clear hb hb2 q0 q1 q2 q3 q4 q5 q6 q7 q8 q9 HS HK
  obtain ⟨q0, q1, q2, q3, q4, q5, q6, q7, q8, q9⟩ := box10 HBX.out
  cases b1 with
  | false =>
    have HH := Lib.hid (head_no HB1.out HB2.out (.inl rfl))
    go_wp2_with fail
    go_ret
    exact ⟨ret_bool (rightN_head HH.out).symm, bthen (one_al _ _) HBX.out⟩
  | true =>
  cases b2 with
  | false =>
    have HH := Lib.hid (head_no HB1.out HB2.out (.inr (.inl rfl)))
    go_wp2_with fail
    go_ret
    exact ⟨ret_bool (rightN_head HH.out).symm, bthen (one_al _ _) HBX.out⟩
  | true =>
  by_cases hk1 : n.kind < 1
  · have HH := Lib.hid (head_no HB1.out HB2.out (.inr (.inr (.inl hk1))))
    go_wp2_with fail
    go_ret
    exact ⟨ret_bool (rightN_head HH.out).symm, bthen (one_al _ _) HBX.out⟩
  by_cases hk2 : 22 < n.kind
  · have HH := Lib.hid (head_no HB1.out HB2.out (.inr (.inr (.inr hk2))))
    go_wp2_with fail
    go_ret
    exact ⟨ret_bool (rightN_head HH.out).symm, bthen (one_al _ _) HBX.out⟩
  have hh := head_yes HB1.out HB2.out rfl rfl hk1 hk2
  have HR := Lib.hid (rightN_self (o := o) hh)
  have H21 := Lib.hid (head_at hh)
  clear hh
  by_cases hz : n.kids.length = 0
  · have hz0 : ((n.kids.length : Int) == 0) = true := by simp [hz]
    have hnil : n.kids = [] := List.length_eq_zero_iff.1 hz
    have HR2 := Lib.hid (show rightN o n = decide (o + selfK n.kind n.kids.length ≤ 24) by rw [HR.out, hnil]; simp [rightNs])
    have hsc : ((n.kind == 4) = true ∧ selfK n.kind n.kids.length = 1) ∨ ((n.kind == 4) = false ∧ (n.kind == 15) = true ∧ selfK n.kind n.kids.length = 1) ∨ ((n.kind == 4) = false ∧ (n.kind == 15) = false ∧ (n.kind == 18) = true ∧ selfK n.kind n.kids.length = 1) ∨ ((n.kind == 4) = false ∧ (n.kind == 15) = false ∧ (n.kind == 18) = false ∧ (n.kind == 19) = true ∧ selfK n.kind n.kids.length = 1) ∨ ((n.kind == 4) = false ∧ (n.kind == 15) = false ∧ (n.kind == 18) = false ∧ (n.kind == 19) = false ∧ selfK n.kind n.kids.length = 0) := by
      simp only [selfK, beq_iff_eq, beq_eq_false_iff_ne, hz]
      by_cases g4 : n.kind = 4 <;> by_cases g15 : n.kind = 15 <;> by_cases g18 : n.kind = 18 <;> by_cases g19 : n.kind = 19 <;> simp_all
    have hrs : rightNs n.kind n.text (o + openK n.kind) 0 n.kids = true := by rw [hnil]; rfl
    clear hnil HR
    rcases hsc with ⟨g4, hop⟩ | ⟨g4, g15, hop⟩ | ⟨g4, g15, g18, hop⟩ | ⟨g4, g15, g18, g19, hop⟩ | ⟨g4, g15, g18, g19, hop⟩
    · rw [hop] at HR2
      clear hop
      by_cases hbig : 24 < (o : Int) + 1
      · have hres := Lib.hid (show rightN o n = false by rw [HR2.out]; simp; omega)
        clear hrs
        go_wp2_with fail
        go_ret
        exact ⟨ret_bool hres.out.symm, bthen (one_al _ _) HBX.out⟩
      · have hres := Lib.hid (show rightN o n = rightNs n.kind n.text (o + openK n.kind) 0 n.kids by rw [HR2.out, hrs]; simp; omega)
        clear hrs
        go_wp2_with fail
        clear q0 q1 q2 q3 q4 q5 q6 q7 q8 q9
        go_loopw [8] (fun i wr => ∃ k, k ≤ n.kids.length ∧ i = .int .i64 (k : Int) ∧ Seen n.kind n.text (o + openK n.kind) n.kids k ∧ Below (w.alloc (boxN n A c B d K e)).heap.size (w.alloc (boxN n A c B d K e)) wr) (fun i _ => n.kids.length - (intOf i).toNat)
        case atStart => exact ⟨0, Nat.zero_le _, rfl, fun j _ h => absurd h (Nat.not_lt_zero j), HBX.out⟩
        case round =>
          obtain ⟨k, hk, rfl, hS, hB⟩ := hrel
          have HS := Lib.hid hS
          have HBL := Lib.hid hB
          clear hS hB
          obtain ⟨q0, q1, q2, q3, q4, q5, q6, q7, q8, q9⟩ := box10 HBL.out
          by_cases hlt : k < n.kids.length
          · omega
          · have hlA : ¬ (k : Int) < (n.kids.length : Int) := by omega
            obtain rfl : k = n.kids.length := by omega
            go_wp2_with fail
            go_ret
            exact ⟨ret_bool (by rw [hres.out]; exact HS.out.all.symm), bthen (one_al _ _) HBL.out⟩
    · rw [hop] at HR2
      clear hop
      by_cases hbig : 24 < (o : Int) + 1
      · have hres := Lib.hid (show rightN o n = false by rw [HR2.out]; simp; omega)
        clear hrs
        go_wp2_with fail
        go_ret
        exact ⟨ret_bool hres.out.symm, bthen (one_al _ _) HBX.out⟩
      · have hres := Lib.hid (show rightN o n = rightNs n.kind n.text (o + openK n.kind) 0 n.kids by rw [HR2.out, hrs]; simp; omega)
        clear hrs
        go_wp2_with fail
        clear q0 q1 q2 q3 q4 q5 q6 q7 q8 q9
        go_loopw [8] (fun i wr => ∃ k, k ≤ n.kids.length ∧ i = .int .i64 (k : Int) ∧ Seen n.kind n.text (o + openK n.kind) n.kids k ∧ Below (w.alloc (boxN n A c B d K e)).heap.size (w.alloc (boxN n A c B d K e)) wr) (fun i _ => n.kids.length - (intOf i).toNat)
        case atStart => exact ⟨0, Nat.zero_le _, rfl, fun j _ h => absurd h (Nat.not_lt_zero j), HBX.out⟩
        case round =>
          obtain ⟨k, hk, rfl, hS, hB⟩ := hrel
          have HS := Lib.hid hS
          have HBL := Lib.hid hB
          clear hS hB
          obtain ⟨q0, q1, q2, q3, q4, q5, q6, q7, q8, q9⟩ := box10 HBL.out
          by_cases hlt : k < n.kids.length
          · omega
          · have hlA : ¬ (k : Int) < (n.kids.length : Int) := by omega
            obtain rfl : k = n.kids.length := by omega
            go_wp2_with fail
            go_ret
            exact ⟨ret_bool (by rw [hres.out]; exact HS.out.all.symm), bthen (one_al _ _) HBL.out⟩
    · rw [hop] at HR2
      clear hop
      by_cases hbig : 24 < (o : Int) + 1
      · have hres := Lib.hid (show rightN o n = false by rw [HR2.out]; simp; omega)
        clear hrs
        go_wp2_with fail
        go_ret
        exact ⟨ret_bool hres.out.symm, bthen (one_al _ _) HBX.out⟩
      · have hres := Lib.hid (show rightN o n = rightNs n.kind n.text (o + openK n.kind) 0 n.kids by rw [HR2.out, hrs]; simp; omega)
        clear hrs
        go_wp2_with fail
        clear q0 q1 q2 q3 q4 q5 q6 q7 q8 q9
        go_loopw [8] (fun i wr => ∃ k, k ≤ n.kids.length ∧ i = .int .i64 (k : Int) ∧ Seen n.kind n.text (o + openK n.kind) n.kids k ∧ Below (w.alloc (boxN n A c B d K e)).heap.size (w.alloc (boxN n A c B d K e)) wr) (fun i _ => n.kids.length - (intOf i).toNat)
        case atStart => exact ⟨0, Nat.zero_le _, rfl, fun j _ h => absurd h (Nat.not_lt_zero j), HBX.out⟩
        case round =>
          obtain ⟨k, hk, rfl, hS, hB⟩ := hrel
          have HS := Lib.hid hS
          have HBL := Lib.hid hB
          clear hS hB
          obtain ⟨q0, q1, q2, q3, q4, q5, q6, q7, q8, q9⟩ := box10 HBL.out
          by_cases hlt : k < n.kids.length
          · omega
          · have hlA : ¬ (k : Int) < (n.kids.length : Int) := by omega
            obtain rfl : k = n.kids.length := by omega
            go_wp2_with fail
            go_ret
            exact ⟨ret_bool (by rw [hres.out]; exact HS.out.all.symm), bthen (one_al _ _) HBL.out⟩
    · rw [hop] at HR2
      clear hop
      by_cases hbig : 24 < (o : Int) + 1
      · have hres := Lib.hid (show rightN o n = false by rw [HR2.out]; simp; omega)
        clear hrs
        go_wp2_with fail
        go_ret
        exact ⟨ret_bool hres.out.symm, bthen (one_al _ _) HBX.out⟩
      · have hres := Lib.hid (show rightN o n = rightNs n.kind n.text (o + openK n.kind) 0 n.kids by rw [HR2.out, hrs]; simp; omega)
        clear hrs
        go_wp2_with fail
        clear q0 q1 q2 q3 q4 q5 q6 q7 q8 q9
        go_loopw [8] (fun i wr => ∃ k, k ≤ n.kids.length ∧ i = .int .i64 (k : Int) ∧ Seen n.kind n.text (o + openK n.kind) n.kids k ∧ Below (w.alloc (boxN n A c B d K e)).heap.size (w.alloc (boxN n A c B d K e)) wr) (fun i _ => n.kids.length - (intOf i).toNat)
        case atStart => exact ⟨0, Nat.zero_le _, rfl, fun j _ h => absurd h (Nat.not_lt_zero j), HBX.out⟩
        case round =>
          obtain ⟨k, hk, rfl, hS, hB⟩ := hrel
          have HS := Lib.hid hS
          have HBL := Lib.hid hB
          clear hS hB
          obtain ⟨q0, q1, q2, q3, q4, q5, q6, q7, q8, q9⟩ := box10 HBL.out
          by_cases hlt : k < n.kids.length
          · omega
          · have hlA : ¬ (k : Int) < (n.kids.length : Int) := by omega
            obtain rfl : k = n.kids.length := by omega
            go_wp2_with fail
            go_ret
            exact ⟨ret_bool (by rw [hres.out]; exact HS.out.all.symm), bthen (one_al _ _) HBL.out⟩
    · rw [hop] at HR2
      clear hop
      have hres := Lib.hid (show rightN o n = rightNs n.kind n.text (o + openK n.kind) 0 n.kids by rw [HR2.out, hrs]; simp; omega)
      clear hrs
      go_wp2_with fail
      clear q0 q1 q2 q3 q4 q5 q6 q7 q8 q9
      go_loopw [8] (fun i wr => ∃ k, k ≤ n.kids.length ∧ i = .int .i64 (k : Int) ∧ Seen n.kind n.text (o + openK n.kind) n.kids k ∧ Below (w.alloc (boxN n A c B d K e)).heap.size (w.alloc (boxN n A c B d K e)) wr) (fun i _ => n.kids.length - (intOf i).toNat)
      case atStart => exact ⟨0, Nat.zero_le _, rfl, fun j _ h => absurd h (Nat.not_lt_zero j), HBX.out⟩
      case round =>
        obtain ⟨k, hk, rfl, hS, hB⟩ := hrel
        have HS := Lib.hid hS
        have HBL := Lib.hid hB
        clear hS hB
        obtain ⟨q0, q1, q2, q3, q4, q5, q6, q7, q8, q9⟩ := box10 HBL.out
        by_cases hlt : k < n.kids.length
        · omega
        · have hlA : ¬ (k : Int) < (n.kids.length : Int) := by omega
          obtain rfl : k = n.kids.length := by omega
          go_wp2_with fail
          go_ret
          exact ⟨ret_bool (by rw [hres.out]; exact HS.out.all.symm), bthen (one_al _ _) HBL.out⟩
  · have hz0 : ((n.kids.length : Int) == 0) = false := by rw [beq_eq_false_iff_ne]; omega
    have hres := Lib.hid (show rightN o n = rightNs n.kind n.text (o + openK n.kind) 0 n.kids by rw [HR.out]; simp [selfK, hz]; omega)
    clear HR
    go_wp2_with fail
    clear q0 q1 q2 q3 q4 q5 q6 q7 q8 q9
    go_loopw [8] (fun i wr => ∃ k, k ≤ n.kids.length ∧ i = .int .i64 (k : Int) ∧ Seen n.kind n.text (o + openK n.kind) n.kids k ∧ Below (w.alloc (boxN n A c B d K e)).heap.size (w.alloc (boxN n A c B d K e)) wr) (fun i _ => n.kids.length - (intOf i).toNat)
    case atStart => exact ⟨0, Nat.zero_le _, rfl, fun j _ h => absurd h (Nat.not_lt_zero j), HBX.out⟩
    case round =>
      obtain ⟨k, hk, rfl, hS, hB⟩ := hrel
      have HS := Lib.hid hS
      have HBL := Lib.hid hB
      clear hS hB
      obtain ⟨q0, q1, q2, q3, q4, q5, q6, q7, q8, q9⟩ := box10 HBL.out
      by_cases hlt : k < n.kids.length
      · have hlA : (k : Int) < (n.kids.length : Int) := by omega
        have h00 : (0 : Int) ≤ (k : Int) := by omega
        have hat : n.kind = 21 → k ≤ 1 := fun h => by have := H21.out h; omega
        have HOp := Lib.hid (fun W hv => rf_opens n k hlt (valN n A c B d K e) ok W hv)
        have hp := opensS_eq n k n.kids[k] hat
        have hp2 := opensS_le n k n.kids[k] hat
        have HI := Lib.hid (fun (W : World) (vv : Value) (q : Nat) (qi : Int) (hq : qi = (q : Int)) (hv : RdN ok W vv n.kids[k]) (hq24 : q ≤ 24) => hq ▸ Hih.out (SizeOf.sizeOf n.kids[k]) (Nat.lt_of_lt_of_le (N.sz_kid hlt) Hm.out) n.kids[k] vv ok W q hv (Nat.le_refl _) hq24)
        have HSt := Lib.hid (fun h1 h2 => HS.out.step hlt h1 h2)
        have HNo := Lib.hid (fun h => seen_no (k := n.kind) (t := n.text) (o := o + openK n.kind) hlt h)
        rw [show o + openK n.kind + innerK n.kind n.text (bindingS n.kids[k]) k = o + opensS n k n.kids[k] by rw [hp]; omega] at HSt HNo
        obtain ⟨g, off, A', c', B', d', K', e', rfl, _, hk', k0, k1, k2, k3, k4, k5, k6, k7, k8, k9⟩ := (HL.out.below (bthen (one_al _ _) HBL.out)).elem k hlt
        generalize opensS n k n.kids[k] = p at *
        generalize n.kids[k] = Y at *
        have HK := Lib.hid hk'
        clear hk' hp hat
        have hp0 : (0 : Int) ≤ (p : Int) := by omega
        have hp3 : (p : Int) ≤ 2 := by omega
        go_wp2_with fail
        refine (HOp.out _ (HP.out.below (bthen (one_al _ _) HBL.out))).mono ?_
        rintro e1 w1 ⟨rfl, hb⟩
        have HB3 := Lib.hid (bthen HBL.out hb)
        have z0 := bcell hb k0
        have z1 := bcell hb k1
        have z2 := bcell hb k2
        have z3 := bcell hb k3
        have z4 := bcell hb k4
        have z5 := bcell hb k5
        have z6 := bcell hb k6
        have z7 := bcell hb k7
        have z8 := bcell hb k8
        have z9 := bcell hb k9
        have HKr := Lib.hid (HK.out.rd.below hb)
        clear k0 k1 k2 k3 k4 k5 k6 k7 k8 k9 q0 q1 q2 q3 q4 q5 q6 q7 q8 q9 hb
        obtain ⟨q0, q1, q2, q3, q4, q5, q6, q7, q8, q9⟩ := box10 HB3.out
        by_cases hbig : 24 < (o : Int) + (p : Int)
        · have hno := Lib.hid (HNo.out (by simp; omega))
          go_wp2_with fail
          go_ret
          exact ⟨ret_bool (by rw [hres.out]; exact hno.out.symm), bthen (one_al _ _) HB3.out⟩
        · have hq24 : o + p ≤ 24 := by omega
          have hyes := Lib.hid (HSt.out (by simpa using hq24))
          go_wp2_with fail
          refine (HI.out _ _ (o + p) _ (by omega) HKr.out hq24).mono ?_
          rintro e1 w2 ⟨rfl, hb⟩
          have HB4 := Lib.hid (bthen HB3.out hb)
          clear hb
          cases hr : rightN (o + p) Y with
          | false =>
            have hno := Lib.hid (HNo.out (by rw [hr]; simp))
            clear hr
            go_wp2_with fail
            go_ret
            exact ⟨ret_bool (by rw [hres.out]; exact hno.out.symm), bthen (one_al _ _) HB4.out⟩
          | true =>
            have hnx := Lib.hid (hyes.out hr)
            clear hr
            go_wp2_with fail
            exact ⟨⟨k + 1, by omega, by go_num, hnx.out, HB4.out⟩, by simp [intOf]; omega⟩
      · have hlA : ¬ (k : Int) < (n.kids.length : Int) := by omega
        obtain rfl : k = n.kids.length := by omega
        go_wp2_with fail
        go_ret
        exact ⟨ret_bool (by rw [hres.out]; exact HS.out.all.symm), bthen (one_al _ _) HBL.out⟩
set_option maxRecDepth 20000 in
set_option maxHeartbeats 2000000 in
theorem rf_Right (n : N) (v : Value) (ok : Nat → Prop) (w : World) (hv : RdN ok w v n) :
    Calls Tryz.prog 12 #[v] w fun e1 w' => e1 = .returned (.bool (rightP n)) ∧ Below w.heap.size w w' := by
  obtain ⟨A, c, B, d, K, e, rfl, hn⟩ := hv.form
  have HV := Lib.hid hv
  clear hn hv
  cases h1 : (n.kind != 1) with
  | true =>
    have h1' : n.kind ≠ 1 := by simpa using h1
    have hp := Lib.hid (show rightP n = false by simp [rightP, h1'])
    clear h1'
    go_enter Tryz.func12, Tryz.ntmps12
    go_wp2_with fail
    go_ret
    exact ⟨ret_bool hp.out.symm, one_al _ _⟩
  | false =>
    have h1' : n.kind = 1 := by simpa using h1
    have hp := Lib.hid (show rightP n = (fitsN n && rightN 0 n) by simp [rightP, h1'])
    clear h1'
    have HF := Lib.hid (fun W hv => ref_fits n (valN n A c B d K e) ok W hv)
    have HG := Lib.hid (fun W hv => rf_right (SizeOf.sizeOf n) n (valN n A c B d K e) ok W 0 hv (Nat.le_refl _) (by decide))
    go_enter Tryz.func12, Tryz.ntmps12
    go_wp2_with fail
    refine (HF.out _ (HV.out.below (one_al _ _))).mono ?_
    rintro e1 w1 ⟨rfl, hb⟩
    have HB := Lib.hid (bthen (one_al _ _) hb)
    obtain ⟨b0, b1, b2, b3, b4, b5, b6, b7, b8, b9⟩ := box10 hb
    clear hb
    cases hf : decide (nsize n ≤ 20000) with
    | false =>
      have HFd := Lib.hid hf
      clear hf
      go_wp2_with fail
      go_ret
      exact ⟨ret_bool (by rw [hp.out]; unfold fitsN; rw [HFd.out]; rfl), HB.out⟩
    | true =>
      have HFd := Lib.hid hf
      clear hf
      go_wp2_with fail
      refine (HG.out _ (HV.out.below HB.out)).mono ?_
      rintro e2 w2 ⟨rfl, hb⟩
      have HB2 := Lib.hid (bthen HB.out hb)
      clear hb
      go_wp2_with fail
      go_ret
      exact ⟨ret_bool (by rw [hp.out]; unfold fitsN; rw [HFd.out]; rfl), HB2.out⟩
end Go.Proofs.YthlfeiiolafonaaGreatDoor
