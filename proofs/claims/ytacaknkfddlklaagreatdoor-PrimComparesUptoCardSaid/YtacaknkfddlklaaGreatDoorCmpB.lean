/- Contract of the statements' truth. The walk of PrimCompares, from the contracts of truth and Encode. prim.Do's comparisons, and the statements' truth. PrimCompares, of any two values. -/
import Derived.Test.YtacaknkfddlklaaGreatDoorJoinB
import Derived.Test.YtacaknkfddlklaaGreatDoorWireB
import Derived.Test.YtacaknkfddlklaaGreatDoorDoOps3
import Derived.Test.YtacaknkfddlklaaGreatDoorOrdLt
import Derived.Test.YtacaknkfddlklaaGreatDoorOrdLe
import Derived.Test.YtacaknkfddlklaaGreatDoorOrdGt
import Derived.Test.YtacaknkfddlklaaGreatDoorOrdGe
set_option linter.unusedVariables false
set_option linter.unusedSimpArgs false
namespace Go.Proofs.YtacaknkfddlklaaGreatDoor
open Go.RowKit Go.IntWalk

set_option maxRecDepth 20000 in
set_option maxHeartbeats 4000000 in
theorem law_truth (op : Int) (a b R : V) (t : Int) (va vb : Value) (oka okb : Nat → Prop) (w : World) (hva : RdV oka w va a) (hvb : RdV okb w vb b) (hl : Hid (CodeLaid w))
    (HD1 : Hid (∀ A W, RdVs anyB W (.slice A 2 2) 0 [a, b] → Hid (CodeLaid W) → Calls Tryz.prog 12 #[.int .i64 op, aggV 0 0, .slice A 2 2] W (AnsPost W R t))) :
    Calls Tryz.prog 24 #[.int .i64 op, va, vb] w fun e w' => e = .returned (.tuple #[.bool (R.num == 1), .bool (t == 0 && R.kind == 1)]) ∧ Below w.heap.size w w' := by
  obtain ⟨Aa, ca, Ba, da, rfl, _⟩ := hva.form
  obtain ⟨Ab, cb, Bb, db, rfl, _⟩ := hvb.form
  have Hva := Lib.hid hva
  have Hvb := Lib.hid hvb
  have HB := Lib.hid (two_boxes w (.int .i64 a.kind) (.int .i64 a.num) (.string ⟨a.str.toArray⟩) (.slice Aa a.parts.length ca) (.slice Ba a.keys.length da) (.int .i64 b.kind) (.int .i64 b.num) (.string ⟨b.str.toArray⟩) (.slice Ab b.parts.length cb) (.slice Bb b.keys.length db))
  obtain ⟨p0, p1, p2, p3, p4⟩ := HB.out.1.get
  obtain ⟨q0, q1, q2, q3, q4⟩ := HB.out.2.get
  have HW := Lib.hid (two_alloc w (.cells #[.int .i64 a.kind, .int .i64 a.num, .string ⟨a.str.toArray⟩, .slice Aa a.parts.length ca, .slice Ba a.keys.length da] 25) (.cells #[.int .i64 b.kind, .int .i64 b.num, .string ⟨b.str.toArray⟩, .slice Ab b.parts.length cb, .slice Bb b.keys.length db] 25))
  clear hva hvb
  go_enter Tryz.func24, Tryz.ntmps24
  go_wp2_with fail
  refine (HD1.out _ _ (list2 (sz2 _ _ _) (Hva.out.below HW.out) (Hvb.out.below HW.out)) (Lib.hid (hl.out.below (bthen HW.out (one_b _ _))))).mono ?_
  rintro e w2 ⟨v', rfl, hv', hb2⟩
  obtain ⟨A6, c6, B6, d6, rfl, _⟩ := hv'.form
  clear p0 p1 p2 p3 p4 q0 q1 q2 q3 q4
  have HB2 := Lib.hid (bthen (bthen HW.out (one_b _ _)) hb2)
  clear hv' hb2
  by_cases h0 : t = 0
  · have g0 : (t == 0) = true := by simpa using h0
    clear h0
    go_upto_region 2 with fail
    go_quiet (fail)
    all_goals go_wp2_with fail
    refine bodyPost_ret (results_tmp2 rfl _ _ _) rfl ?_
    all_goals exact ⟨by rw [g0]; rfl, bthen HB2.out (bthen (one_b _ _) (below_drewN _ _))⟩
  · have g0 : (t == 0) = false := by simpa using h0
    clear h0
    go_upto_region 2 with fail
    go_quiet (fail)
    all_goals go_wp2_with fail
    refine bodyPost_ret (results_tmp2 rfl _ _ _) rfl ?_
    all_goals exact ⟨by rw [g0]; rfl, bthen HB2.out (bthen (one_b _ _) (below_drewN _ _))⟩
end Go.Proofs.YtacaknkfddlklaaGreatDoor
namespace Go.Proofs.YtacaknkfddlklaaGreatDoor
open Go.RowKit Go.IntWalk

theorem RdBy.toStr {w : World} {v : Value} {l : List UInt8} (h : RdBy w v l) (h0 : 0 < l.length) : (convert 40 9 v).run Tryz.prog w = .ok (.string ⟨l.toArray⟩) w := by
  obtain ⟨A, cap, rfl, hc⟩ := h
  obtain ⟨g, off, rfl, hh⟩ := hc h0
  have hr := run_convert_bytes_arg (P := Tryz.prog) w 40 5 Tryz.underlying40 Tryz.underlying5 g off l.length cap (l.map fun c => (c.toNat : Int)) (by simp) (fun i hi => ?_) 9 Tryz.underlying9
  · rw [hr]
    have e1 : List.map ((fun n : Int => UInt8.ofNat n.toNat) ∘ fun c : UInt8 => (c.toNat : Int)) l = l := by
      rw [List.map_congr_left (g := id) (fun a _ => by simp)]
      simp
    simp only [strOfNums, List.map_map, e1]
  · exact hh i (.int .u8 ((l.map fun c => (c.toNat : Int)).getD i 0)) (by simp [bvals, List.getElem?_eq_getElem hi])
theorem encS_pos (X : V) : 0 < (encS X).length := by
  cases X with
  | mk k n s l ks => rw [encS_parts]; simp
/-- truth answers E, O -/
abbrev TrOK (op : Int) (va vb : Value) (w : World) (E O : Bool) : Prop := ∀ W, Below w.heap.size w W → Calls Tryz.prog 24 #[.int .i64 op, va, vb] W fun e w' => e = .returned (.tuple #[.bool E, .bool O]) ∧ Below W.heap.size W w'

set_option maxRecDepth 20000 in
set_option maxHeartbeats 8000000 in
theorem cmp_no1 (a b : V) (E17 E18 E19 E20 E21 E22 O17 O18 O19 O20 O21 O22 : Bool) (va vb : Value) (oka okb : Nat → Prop) (w : World) (hva : RdV oka w va a) (hvb : RdV okb w vb b) (hl : Hid (CodeLaid w))
    (HT17 : Hid (TrOK 17 va vb w E17 O17)) (HT18 : Hid (TrOK 18 va vb w E18 O18)) (HT19 : Hid (TrOK 19 va vb w E19 O19)) (HT20 : Hid (TrOK 20 va vb w E20 O20)) (HT21 : Hid (TrOK 21 va vb w E21 O21)) (HT22 : Hid (TrOK 22 va vb w E22 O22))
    (hO : O17 = false ∧ O18 = false ∧ O19 = false ∧ O20 = false ∧ O21 = false ∧ O22 = false)
    (HE1 : Hid (∀ W, RdV oka W va a → Calls Tryz.prog 23 #[va] W fun e w' => Below W.heap.size W w' ∧ e = .returned (.tuple #[.slice none 0 0, .int .i64 40])))
    (HE2 : Hid (∀ W, RdV okb W vb b → Calls Tryz.prog 23 #[vb] W fun e w' => Below W.heap.size W w' ∧ ∃ r n, e = .returned (.tuple #[r, .int .i64 n]))) :
    Calls Tryz.prog 6 #[va, vb] w fun e w' => e = .returned (.bool true) ∧ Below w.heap.size w w' := by
  obtain ⟨Aa, ca, Ba, da, rfl, _⟩ := hva.form
  obtain ⟨Ab, cb, Bb, db, rfl, _⟩ := hvb.form
  have Hva := Lib.hid hva
  have Hvb := Lib.hid hvb
  have HB := Lib.hid (two_boxes w (.int .i64 a.kind) (.int .i64 a.num) (.string ⟨a.str.toArray⟩) (.slice Aa a.parts.length ca) (.slice Ba a.keys.length da) (.int .i64 b.kind) (.int .i64 b.num) (.string ⟨b.str.toArray⟩) (.slice Ab b.parts.length cb) (.slice Bb b.keys.length db))
  have HW := Lib.hid (two_alloc w (.cells #[.int .i64 a.kind, .int .i64 a.num, .string ⟨a.str.toArray⟩, .slice Aa a.parts.length ca, .slice Ba a.keys.length da] 25) (.cells #[.int .i64 b.kind, .int .i64 b.num, .string ⟨b.str.toArray⟩, .slice Ab b.parts.length cb, .slice Bb b.keys.length db] 25))
  clear hva hvb
  skip
  go_enter Tryz.func6, Tryz.ntmps6
  go_wp2_with fail
  refine (prim_shown _ (Lib.hid (hl.out.below HW.out))).mono ?_
  rintro e w0 ⟨rfl, hb0⟩
  have HB0 := Lib.hid (SameSt.mk (v1 := valV a Aa ca Ba da) (v2 := valV b Ab cb Bb db) (HB.out.1.below hb0) (HB.out.2.below hb0) (bthen HW.out hb0))
  clear hb0 HB HW
  obtain ⟨p0, p1, p2, p3, p4⟩ := HB0.out.one.get
  obtain ⟨q0, q1, q2, q3, q4⟩ := HB0.out.two.get
  go_wp2_with fail
  refine (HE1.out _ (Hva.out.below HB0.out.bel)).mono ?_
  rintro e w1 ⟨hb, rfl⟩
  have HB1 := Lib.hid (HB0.out.below hb)
  clear p0 p1 p2 p3 p4 q0 q1 q2 q3 q4
  clear hb
  obtain ⟨p0, p1, p2, p3, p4⟩ := HB1.out.one.get
  obtain ⟨q0, q1, q2, q3, q4⟩ := HB1.out.two.get
  go_wp2_with fail
  refine (HE2.out _ (Hvb.out.below HB1.out.bel)).mono ?_
  rintro e w2 ⟨hb, r, n, rfl⟩
  have HB2 := Lib.hid (HB1.out.below hb)
  clear p0 p1 p2 p3 p4 q0 q1 q2 q3 q4
  clear hb
  obtain ⟨p0, p1, p2, p3, p4⟩ := HB2.out.one.get
  obtain ⟨q0, q1, q2, q3, q4⟩ := HB2.out.two.get
  go_wp2_with fail
  refine (HT17.out _ HB2.out.bel).mono ?_
  rintro e w3 ⟨rfl, hb⟩
  have HB3 := Lib.hid (HB2.out.below hb)
  clear p0 p1 p2 p3 p4 q0 q1 q2 q3 q4
  clear hb
  obtain ⟨p0, p1, p2, p3, p4⟩ := HB3.out.one.get
  obtain ⟨q0, q1, q2, q3, q4⟩ := HB3.out.two.get
  go_wp2_with fail
  refine (HT18.out _ HB3.out.bel).mono ?_
  rintro e w4 ⟨rfl, hb⟩
  have HB4 := Lib.hid (HB3.out.below hb)
  clear p0 p1 p2 p3 p4 q0 q1 q2 q3 q4
  clear hb
  obtain ⟨p0, p1, p2, p3, p4⟩ := HB4.out.one.get
  obtain ⟨q0, q1, q2, q3, q4⟩ := HB4.out.two.get
  go_wp2_with fail
  refine (HT19.out _ HB4.out.bel).mono ?_
  rintro e w5 ⟨rfl, hb⟩
  have HB5 := Lib.hid (HB4.out.below hb)
  clear p0 p1 p2 p3 p4 q0 q1 q2 q3 q4
  clear hb
  obtain ⟨p0, p1, p2, p3, p4⟩ := HB5.out.one.get
  obtain ⟨q0, q1, q2, q3, q4⟩ := HB5.out.two.get
  go_wp2_with fail
  refine (HT20.out _ HB5.out.bel).mono ?_
  rintro e w6 ⟨rfl, hb⟩
  have HB6 := Lib.hid (HB5.out.below hb)
  clear p0 p1 p2 p3 p4 q0 q1 q2 q3 q4
  clear hb
  obtain ⟨p0, p1, p2, p3, p4⟩ := HB6.out.one.get
  obtain ⟨q0, q1, q2, q3, q4⟩ := HB6.out.two.get
  go_wp2_with fail
  refine (HT21.out _ HB6.out.bel).mono ?_
  rintro e w7 ⟨rfl, hb⟩
  have HB7 := Lib.hid (HB6.out.below hb)
  clear p0 p1 p2 p3 p4 q0 q1 q2 q3 q4
  clear hb
  obtain ⟨p0, p1, p2, p3, p4⟩ := HB7.out.one.get
  obtain ⟨q0, q1, q2, q3, q4⟩ := HB7.out.two.get
  go_wp2_with fail
  refine (HT22.out _ HB7.out.bel).mono ?_
  rintro e w8 ⟨rfl, hb⟩
  have HB8 := Lib.hid (HB7.out.below hb)
  clear p0 p1 p2 p3 p4 q0 q1 q2 q3 q4
  clear hb
  obtain ⟨p0, p1, p2, p3, p4⟩ := HB8.out.one.get
  obtain ⟨q0, q1, q2, q3, q4⟩ := HB8.out.two.get
  obtain ⟨rfl, rfl, rfl, rfl, rfl, rfl⟩ := hO
  go_wp2_with fail
  go_ret
  exact ⟨rfl, HB8.out.bel⟩
set_option maxRecDepth 20000 in
set_option maxHeartbeats 8000000 in
theorem cmp_no2 (a b : V) (E17 E18 E19 E20 E21 E22 O17 O18 O19 O20 O21 O22 : Bool) (va vb : Value) (oka okb : Nat → Prop) (w : World) (hva : RdV oka w va a) (hvb : RdV okb w vb b) (hl : Hid (CodeLaid w))
    (HT17 : Hid (TrOK 17 va vb w E17 O17)) (HT18 : Hid (TrOK 18 va vb w E18 O18)) (HT19 : Hid (TrOK 19 va vb w E19 O19)) (HT20 : Hid (TrOK 20 va vb w E20 O20)) (HT21 : Hid (TrOK 21 va vb w E21 O21)) (HT22 : Hid (TrOK 22 va vb w E22 O22))
    (hO : O17 = false ∧ O18 = false ∧ O19 = false ∧ O20 = false ∧ O21 = false ∧ O22 = false)
    (HE1 : Hid (∀ W, RdV oka W va a → Calls Tryz.prog 23 #[va] W fun e w' => Below W.heap.size W w' ∧ ∃ r, e = .returned (.tuple #[r, .int .i64 0]) ∧ RdBy w' r (encS a)))
    (HE2 : Hid (∀ W, RdV okb W vb b → Calls Tryz.prog 23 #[vb] W fun e w' => Below W.heap.size W w' ∧ e = .returned (.tuple #[.slice none 0 0, .int .i64 40]))) :
    Calls Tryz.prog 6 #[va, vb] w fun e w' => e = .returned (.bool true) ∧ Below w.heap.size w w' := by
  obtain ⟨Aa, ca, Ba, da, rfl, _⟩ := hva.form
  obtain ⟨Ab, cb, Bb, db, rfl, _⟩ := hvb.form
  have Hva := Lib.hid hva
  have Hvb := Lib.hid hvb
  have HB := Lib.hid (two_boxes w (.int .i64 a.kind) (.int .i64 a.num) (.string ⟨a.str.toArray⟩) (.slice Aa a.parts.length ca) (.slice Ba a.keys.length da) (.int .i64 b.kind) (.int .i64 b.num) (.string ⟨b.str.toArray⟩) (.slice Ab b.parts.length cb) (.slice Bb b.keys.length db))
  have HW := Lib.hid (two_alloc w (.cells #[.int .i64 a.kind, .int .i64 a.num, .string ⟨a.str.toArray⟩, .slice Aa a.parts.length ca, .slice Ba a.keys.length da] 25) (.cells #[.int .i64 b.kind, .int .i64 b.num, .string ⟨b.str.toArray⟩, .slice Ab b.parts.length cb, .slice Bb b.keys.length db] 25))
  clear hva hvb
  skip
  go_enter Tryz.func6, Tryz.ntmps6
  go_wp2_with fail
  refine (prim_shown _ (Lib.hid (hl.out.below HW.out))).mono ?_
  rintro e w0 ⟨rfl, hb0⟩
  have HB0 := Lib.hid (SameSt.mk (v1 := valV a Aa ca Ba da) (v2 := valV b Ab cb Bb db) (HB.out.1.below hb0) (HB.out.2.below hb0) (bthen HW.out hb0))
  clear hb0 HB HW
  obtain ⟨p0, p1, p2, p3, p4⟩ := HB0.out.one.get
  obtain ⟨q0, q1, q2, q3, q4⟩ := HB0.out.two.get
  go_wp2_with fail
  refine (HE1.out _ (Hva.out.below HB0.out.bel)).mono ?_
  rintro e w1 ⟨hb, r, rfl, _⟩
  have HB1 := Lib.hid (HB0.out.below hb)
  clear p0 p1 p2 p3 p4 q0 q1 q2 q3 q4
  clear hb
  obtain ⟨p0, p1, p2, p3, p4⟩ := HB1.out.one.get
  obtain ⟨q0, q1, q2, q3, q4⟩ := HB1.out.two.get
  go_wp2_with fail
  refine (HE2.out _ (Hvb.out.below HB1.out.bel)).mono ?_
  rintro e w2 ⟨hb, rfl⟩
  have HB2 := Lib.hid (HB1.out.below hb)
  clear p0 p1 p2 p3 p4 q0 q1 q2 q3 q4
  clear hb
  obtain ⟨p0, p1, p2, p3, p4⟩ := HB2.out.one.get
  obtain ⟨q0, q1, q2, q3, q4⟩ := HB2.out.two.get
  go_wp2_with fail
  refine (HT17.out _ HB2.out.bel).mono ?_
  rintro e w3 ⟨rfl, hb⟩
  have HB3 := Lib.hid (HB2.out.below hb)
  clear p0 p1 p2 p3 p4 q0 q1 q2 q3 q4
  clear hb
  obtain ⟨p0, p1, p2, p3, p4⟩ := HB3.out.one.get
  obtain ⟨q0, q1, q2, q3, q4⟩ := HB3.out.two.get
  go_wp2_with fail
  refine (HT18.out _ HB3.out.bel).mono ?_
  rintro e w4 ⟨rfl, hb⟩
  have HB4 := Lib.hid (HB3.out.below hb)
  clear p0 p1 p2 p3 p4 q0 q1 q2 q3 q4
  clear hb
  obtain ⟨p0, p1, p2, p3, p4⟩ := HB4.out.one.get
  obtain ⟨q0, q1, q2, q3, q4⟩ := HB4.out.two.get
  go_wp2_with fail
  refine (HT19.out _ HB4.out.bel).mono ?_
  rintro e w5 ⟨rfl, hb⟩
  have HB5 := Lib.hid (HB4.out.below hb)
  clear p0 p1 p2 p3 p4 q0 q1 q2 q3 q4
  clear hb
  obtain ⟨p0, p1, p2, p3, p4⟩ := HB5.out.one.get
  obtain ⟨q0, q1, q2, q3, q4⟩ := HB5.out.two.get
  go_wp2_with fail
  refine (HT20.out _ HB5.out.bel).mono ?_
  rintro e w6 ⟨rfl, hb⟩
  have HB6 := Lib.hid (HB5.out.below hb)
  clear p0 p1 p2 p3 p4 q0 q1 q2 q3 q4
  clear hb
  obtain ⟨p0, p1, p2, p3, p4⟩ := HB6.out.one.get
  obtain ⟨q0, q1, q2, q3, q4⟩ := HB6.out.two.get
  go_wp2_with fail
  refine (HT21.out _ HB6.out.bel).mono ?_
  rintro e w7 ⟨rfl, hb⟩
  have HB7 := Lib.hid (HB6.out.below hb)
  clear p0 p1 p2 p3 p4 q0 q1 q2 q3 q4
  clear hb
  obtain ⟨p0, p1, p2, p3, p4⟩ := HB7.out.one.get
  obtain ⟨q0, q1, q2, q3, q4⟩ := HB7.out.two.get
  go_wp2_with fail
  refine (HT22.out _ HB7.out.bel).mono ?_
  rintro e w8 ⟨rfl, hb⟩
  have HB8 := Lib.hid (HB7.out.below hb)
  clear p0 p1 p2 p3 p4 q0 q1 q2 q3 q4
  clear hb
  obtain ⟨p0, p1, p2, p3, p4⟩ := HB8.out.one.get
  obtain ⟨q0, q1, q2, q3, q4⟩ := HB8.out.two.get
  obtain ⟨rfl, rfl, rfl, rfl, rfl, rfl⟩ := hO
  go_wp2_with fail
  go_ret
  exact ⟨rfl, HB8.out.bel⟩
set_option maxRecDepth 20000 in
set_option maxHeartbeats 8000000 in
theorem cmp_yes (a b : V) (E17 E18 E19 E20 E21 E22 O17 O18 O19 O20 O21 O22 : Bool) (va vb : Value) (oka okb : Nat → Prop) (w : World) (hva : RdV oka w va a) (hvb : RdV okb w vb b) (hl : Hid (CodeLaid w))
    (HT17 : Hid (TrOK 17 va vb w E17 O17)) (HT18 : Hid (TrOK 18 va vb w E18 O18)) (HT19 : Hid (TrOK 19 va vb w E19 O19)) (HT20 : Hid (TrOK 20 va vb w E20 O20)) (HT21 : Hid (TrOK 21 va vb w E21 O21)) (HT22 : Hid (TrOK 22 va vb w E22 O22))
    (hcase : (O17 = true ∧ O18 = true ∧ O19 = true ∧ O20 = true ∧ O21 = true ∧ O22 = true ∧ E18 = !E17 ∧ 
        ((E17 = true ∧ encS a = encS b ∧ E19 = false ∧ E20 = true ∧ E21 = false ∧ E22 = true) ∨ (E17 = false ∧ (encS a == encS b) = false ∧ E19 = true ∧ E20 = true ∧ E21 = false ∧ E22 = false) ∨ (E17 = false ∧ (encS a == encS b) = false ∧ E19 = false ∧ E20 = false ∧ E21 = true ∧ E22 = true)) ∧
        (a.kind == b.kind) = true ∧ ((a.kind == 2) = true ∨ ((a.kind == 2) = false ∧ (a.kind == 3) = true)))
      ∨ (O17 = true ∧ O18 = true ∧ (O19 = false ∧ O20 = false ∧ O21 = false ∧ O22 = false) ∧ E18 = !E17 ∧ ((E17 = true ∧ encS a = encS b) ∨ (E17 = false ∧ (encS a == encS b) = false)) ∧
        ((a.kind == b.kind) = false ∨ ((a.kind == b.kind) = true ∧ (a.kind == 2) = false ∧ (a.kind == 3) = false))))
    (HE1 : Hid (∀ W, RdV oka W va a → Calls Tryz.prog 23 #[va] W fun e w' => Below W.heap.size W w' ∧ ∃ r, e = .returned (.tuple #[r, .int .i64 0]) ∧ RdBy w' r (encS a)))
    (HE2 : Hid (∀ W, RdV okb W vb b → Calls Tryz.prog 23 #[vb] W fun e w' => Below W.heap.size W w' ∧ ∃ r, e = .returned (.tuple #[r, .int .i64 0]) ∧ RdBy w' r (encS b))) :
    Calls Tryz.prog 6 #[va, vb] w fun e w' => e = .returned (.bool true) ∧ Below w.heap.size w w' := by
  obtain ⟨Aa, ca, Ba, da, rfl, _⟩ := hva.form
  obtain ⟨Ab, cb, Bb, db, rfl, _⟩ := hvb.form
  have Hva := Lib.hid hva
  have Hvb := Lib.hid hvb
  have HB := Lib.hid (two_boxes w (.int .i64 a.kind) (.int .i64 a.num) (.string ⟨a.str.toArray⟩) (.slice Aa a.parts.length ca) (.slice Ba a.keys.length da) (.int .i64 b.kind) (.int .i64 b.num) (.string ⟨b.str.toArray⟩) (.slice Ab b.parts.length cb) (.slice Bb b.keys.length db))
  have HW := Lib.hid (two_alloc w (.cells #[.int .i64 a.kind, .int .i64 a.num, .string ⟨a.str.toArray⟩, .slice Aa a.parts.length ca, .slice Ba a.keys.length da] 25) (.cells #[.int .i64 b.kind, .int .i64 b.num, .string ⟨b.str.toArray⟩, .slice Ab b.parts.length cb, .slice Bb b.keys.length db] 25))
  clear hva hvb
  skip
  go_enter Tryz.func6, Tryz.ntmps6
  go_wp2_with fail
  refine (prim_shown _ (Lib.hid (hl.out.below HW.out))).mono ?_
  rintro e w0 ⟨rfl, hb0⟩
  have HB0 := Lib.hid (SameSt.mk (v1 := valV a Aa ca Ba da) (v2 := valV b Ab cb Bb db) (HB.out.1.below hb0) (HB.out.2.below hb0) (bthen HW.out hb0))
  clear hb0 HB HW
  obtain ⟨p0, p1, p2, p3, p4⟩ := HB0.out.one.get
  obtain ⟨q0, q1, q2, q3, q4⟩ := HB0.out.two.get
  go_wp2_with fail
  refine (HE1.out _ (Hva.out.below HB0.out.bel)).mono ?_
  rintro e w1 ⟨hb, X, rfl, rx⟩
  have HB1 := Lib.hid (HB0.out.below hb)
  clear p0 p1 p2 p3 p4 q0 q1 q2 q3 q4
  have RX := Lib.hid rx
  clear rx
  clear hb
  obtain ⟨p0, p1, p2, p3, p4⟩ := HB1.out.one.get
  obtain ⟨q0, q1, q2, q3, q4⟩ := HB1.out.two.get
  go_wp2_with fail
  refine (HE2.out _ (Hvb.out.below HB1.out.bel)).mono ?_
  rintro e w2 ⟨hb, Y, rfl, ry⟩
  have HB2 := Lib.hid (HB1.out.below hb)
  clear p0 p1 p2 p3 p4 q0 q1 q2 q3 q4
  have RX := Lib.hid (RX.out.below hb)
  have RY := Lib.hid ry
  clear ry
  clear hb
  obtain ⟨p0, p1, p2, p3, p4⟩ := HB2.out.one.get
  obtain ⟨q0, q1, q2, q3, q4⟩ := HB2.out.two.get
  go_wp2_with fail
  refine (HT17.out _ HB2.out.bel).mono ?_
  rintro e w3 ⟨rfl, hb⟩
  have HB3 := Lib.hid (HB2.out.below hb)
  clear p0 p1 p2 p3 p4 q0 q1 q2 q3 q4
  have RX := Lib.hid (RX.out.below hb)
  have RY := Lib.hid (RY.out.below hb)
  clear hb
  obtain ⟨p0, p1, p2, p3, p4⟩ := HB3.out.one.get
  obtain ⟨q0, q1, q2, q3, q4⟩ := HB3.out.two.get
  go_wp2_with fail
  refine (HT18.out _ HB3.out.bel).mono ?_
  rintro e w4 ⟨rfl, hb⟩
  have HB4 := Lib.hid (HB3.out.below hb)
  clear p0 p1 p2 p3 p4 q0 q1 q2 q3 q4
  have RX := Lib.hid (RX.out.below hb)
  have RY := Lib.hid (RY.out.below hb)
  clear hb
  obtain ⟨p0, p1, p2, p3, p4⟩ := HB4.out.one.get
  obtain ⟨q0, q1, q2, q3, q4⟩ := HB4.out.two.get
  go_wp2_with fail
  refine (HT19.out _ HB4.out.bel).mono ?_
  rintro e w5 ⟨rfl, hb⟩
  have HB5 := Lib.hid (HB4.out.below hb)
  clear p0 p1 p2 p3 p4 q0 q1 q2 q3 q4
  have RX := Lib.hid (RX.out.below hb)
  have RY := Lib.hid (RY.out.below hb)
  clear hb
  obtain ⟨p0, p1, p2, p3, p4⟩ := HB5.out.one.get
  obtain ⟨q0, q1, q2, q3, q4⟩ := HB5.out.two.get
  go_wp2_with fail
  refine (HT20.out _ HB5.out.bel).mono ?_
  rintro e w6 ⟨rfl, hb⟩
  have HB6 := Lib.hid (HB5.out.below hb)
  clear p0 p1 p2 p3 p4 q0 q1 q2 q3 q4
  have RX := Lib.hid (RX.out.below hb)
  have RY := Lib.hid (RY.out.below hb)
  clear hb
  obtain ⟨p0, p1, p2, p3, p4⟩ := HB6.out.one.get
  obtain ⟨q0, q1, q2, q3, q4⟩ := HB6.out.two.get
  go_wp2_with fail
  refine (HT21.out _ HB6.out.bel).mono ?_
  rintro e w7 ⟨rfl, hb⟩
  have HB7 := Lib.hid (HB6.out.below hb)
  clear p0 p1 p2 p3 p4 q0 q1 q2 q3 q4
  have RX := Lib.hid (RX.out.below hb)
  have RY := Lib.hid (RY.out.below hb)
  clear hb
  obtain ⟨p0, p1, p2, p3, p4⟩ := HB7.out.one.get
  obtain ⟨q0, q1, q2, q3, q4⟩ := HB7.out.two.get
  go_wp2_with fail
  refine (HT22.out _ HB7.out.bel).mono ?_
  rintro e w8 ⟨rfl, hb⟩
  have HB8 := Lib.hid (HB7.out.below hb)
  clear p0 p1 p2 p3 p4 q0 q1 q2 q3 q4
  have RX := Lib.hid (RX.out.below hb)
  have RY := Lib.hid (RY.out.below hb)
  clear hb
  obtain ⟨p0, p1, p2, p3, p4⟩ := HB8.out.one.get
  obtain ⟨q0, q1, q2, q3, q4⟩ := HB8.out.two.get
  have hs1 := RX.out.toStr (encS_pos a)
  have hs2 := RY.out.toStr (encS_pos b)
  have HC := Lib.hid hcase
  clear hcase RX RY HT17 HT18 HT19 HT20 HT21 HT22 HE1 HE2 Hva Hvb
  rcases HC.out with ⟨rfl, rfl, rfl, rfl, rfl, rfl, rfl, h⟩ | ⟨rfl, rfl, ⟨rfl, rfl, rfl, rfl⟩, rfl, h, hk⟩
  · have hk : (a.kind == b.kind) = true ∧ ((a.kind == 2) = true ∨ ((a.kind == 2) = false ∧ (a.kind == 3) = true)) := h.2
    obtain ⟨k1, k2 | ⟨k2, k3⟩⟩ := hk
    all_goals rcases h.1 with ⟨rfl, hq, rfl, rfl, rfl, rfl⟩ | ⟨rfl, hq, rfl, rfl, rfl, rfl⟩ | ⟨rfl, hq, rfl, rfl, rfl, rfl⟩
    all_goals (clear h HC)
    all_goals go_wp2_with fail
    all_goals go_ret
    all_goals exact ⟨rfl, HB8.out.bel⟩
  · rcases hk with k1 | ⟨k1, k2, k3⟩
    all_goals rcases h with ⟨rfl, hq⟩ | ⟨rfl, hq⟩
    all_goals (clear HC)
    all_goals go_wp2_with fail
    all_goals go_ret
    all_goals exact ⟨rfl, HB8.out.bel⟩
end Go.Proofs.YtacaknkfddlklaaGreatDoor
namespace Go.Proofs.YtacaknkfddlklaaGreatDoor
open Go.RowKit Go.IntWalk

/-- what the comparison op says of c -/
def relS (op c : Int) : Bool := if op = 17 then decide (c = 0) else if op = 18 then decide (c ≠ 0) else if op = 19 then decide (c < 0) else if op = 20 then decide (c ≤ 0) else if op = 21 then decide (0 < c) else decide (0 ≤ c)
def ordered (X Y : V) : Bool := (decide (X.kind = 2) && decide (Y.kind = 2)) || (decide (X.kind = 3) && decide (Y.kind = 3))
/-- kind, number and trap of what a comparison makes of right values -/
def cmpK (op : Int) (X Y : V) : Int := if op = 17 ∨ op = 18 ∨ ordered X Y = true then 1 else 0
def cmpN (op : Int) (X Y : V) : Int := if op = 17 ∨ op = 18 ∨ ordered X Y = true then (if relS op (compS X Y) = true then 1 else 0) else 0
def cmpE (op : Int) (X Y : V) : Int := if op = 17 ∨ op = 18 ∨ ordered X Y = true then 0 else 3
theorem i64ok_1 : i64ok 1 := i64ok_small (by decide) (by decide)
theorem fits_cmp (op : Int) (X Y : V) (hX : rightB X = true) (hY : rightB Y = true) (h : op = 17 ∨ op = 18 ∨ op = 19 ∨ op = 20 ∨ op = 21 ∨ op = 22) : fitsS op V.zero [X, Y] = true := by
  have ht : takesS op 2 V.zero = 2 := by rcases h with rfl | rfl | rfl | rfl | rfl | rfl <;> rfl
  have h26 : op ≠ 26 := by omega
  simp [fitsS, hX, hY, right_zero, ht, h26]
theorem not_cmp (op : Int) (X Y : V) (h : ¬ (rightB X = true ∧ rightB Y = true)) : (pureB op && fitsS op V.zero [X, Y]) = false := by
  rw [Bool.eq_false_iff]
  intro hh
  apply h
  simp [fitsS] at hh
  exact ⟨hh.2.2.1.1, hh.2.2.1.2⟩
/-- a closure's answer as the statement wants it -/
theorem ord_ans {X Y : V} {op : Int} {w : World} {e : Ending} {w' : World} (ho : ordered X Y = true) {n : Int} (hn : n = if relS op (compS X Y) = true then 1 else 0) (h : PlainPost w 1 n 0 e w') : AnsPost w (.mk (cmpK op X Y) (cmpN op X Y) [] [] []) (cmpE op X Y) e w' := by
  subst hn
  have h1 : cmpK op X Y = 1 := by simp [cmpK, ho]
  have h2 : cmpN op X Y = if relS op (compS X Y) = true then 1 else 0 := by simp [cmpN, ho]
  have h3 : cmpE op X Y = 0 := by simp [cmpE, ho]
  rw [h1, h2, h3]
  exact AnsPost.of i64ok_1 (by split; exact i64ok_1; exact i64ok_0) h
theorem ord_trap {X Y : V} {op : Int} {w : World} {e : Ending} {w' : World} (h7 : op ≠ 17) (h8 : op ≠ 18) (ho : ordered X Y = false) (h : PlainPost w 0 0 3 e w') : AnsPost w (.mk (cmpK op X Y) (cmpN op X Y) [] [] []) (cmpE op X Y) e w' := by
  have h1 : cmpK op X Y = 0 := by simp [cmpK, ho, h7, h8]
  have h2 : cmpN op X Y = 0 := by simp [cmpN, ho, h7, h8]
  have h3 : cmpE op X Y = 3 := by simp [cmpE, ho, h7, h8]
  rw [h1, h2, h3]
  exact AnsPost.of i64ok_0 i64ok_0 h
theorem eq_ans {X Y : V} {op : Int} {w : World} {e : Ending} {w' : World} (h78 : op = 17 ∨ op = 18) {n : Int} (hn : n = if relS op (compS X Y) = true then 1 else 0) (h : PlainPost w 1 n 0 e w') : AnsPost w (.mk (cmpK op X Y) (cmpN op X Y) [] [] []) (cmpE op X Y) e w' := by
  subst hn
  have hh : op = 17 ∨ op = 18 ∨ ordered X Y = true := by rcases h78 with h | h <;> simp [h]
  have h1 : cmpK op X Y = 1 := by rw [cmpK, if_pos hh]
  have h2 : cmpN op X Y = if relS op (compS X Y) = true then 1 else 0 := by rw [cmpN, if_pos hh]
  have h3 : cmpE op X Y = 0 := by rw [cmpE, if_pos hh]
  rw [h1, h2, h3]
  exact AnsPost.of i64ok_1 (by split; exact i64ok_1; exact i64ok_0) h
theorem ordered_cases {X Y : V} (h : ordered X Y = true) : (X.kind = 2 ∧ Y.kind = 2) ∨ (X.kind = 3 ∧ Y.kind = 3) := by
  simpa [ordered] using h
theorem ordered_not {X Y : V} (h : ordered X Y = false) : ¬ (X.kind = 2 ∧ Y.kind = 2) ∧ ¬ (X.kind = 3 ∧ Y.kind = 3) := by
  simp only [ordered, Bool.or_eq_false_iff, Bool.and_eq_false_iff, decide_eq_false_iff_not] at h
  exact ⟨fun hh => by rcases h.1 with h1 | h1; exact h1 hh.1; exact h1 hh.2, fun hh => by rcases h.2 with h1 | h1; exact h1 hh.1; exact h1 hh.2⟩
theorem do17 (X Y : V) (hX : rightB X = true) (hY : rightB Y = true) (A : Option Addr) (w : World) (hls : RdVs anyB w (.slice A 2 2) 0 [X, Y]) (hl : Hid (CodeLaid w)) :
    Calls Tryz.prog 12 #[.int .i64 17, aggV 0 0, .slice A 2 2] w (AnsPost w (.mk (cmpK 17 X Y) (cmpN 17 X Y) [] [] []) (cmpE 17 X Y)) :=
  prim_Do_17 V.zero [X, Y] _ A 2 anyB w (zero_rd _ _) hls (Nat.le_refl _) (by decide) hl (fits_cmp 17 X Y hX hY (by simp)) _ _ fun w1 hb => by
    by_cases hc : compS X Y = 0
    · exact (prim_eq1 X Y hc _ _ _ _ _ A 2 anyB w1 (hls.below hb)).mono fun e w' h => eq_ans (Or.inl rfl) (by simp [relS, hc]) h
    · exact (prim_eq0 X Y hc _ _ _ _ _ A 2 anyB w1 (hls.below hb)).mono fun e w' h => eq_ans (Or.inl rfl) (by simp [relS, hc]) h
theorem do18 (X Y : V) (hX : rightB X = true) (hY : rightB Y = true) (A : Option Addr) (w : World) (hls : RdVs anyB w (.slice A 2 2) 0 [X, Y]) (hl : Hid (CodeLaid w)) :
    Calls Tryz.prog 12 #[.int .i64 18, aggV 0 0, .slice A 2 2] w (AnsPost w (.mk (cmpK 18 X Y) (cmpN 18 X Y) [] [] []) (cmpE 18 X Y)) :=
  prim_Do_18 V.zero [X, Y] _ A 2 anyB w (zero_rd _ _) hls (Nat.le_refl _) (by decide) hl (fits_cmp 18 X Y hX hY (by simp)) _ _ fun w1 hb => by
    by_cases hc : compS X Y = 0
    · exact (prim_ne0 X Y hc _ _ _ _ _ A 2 anyB w1 (hls.below hb)).mono fun e w' h => eq_ans (Or.inr rfl) (by simp [relS, hc]) h
    · exact (prim_ne1 X Y hc _ _ _ _ _ A 2 anyB w1 (hls.below hb)).mono fun e w' h => eq_ans (Or.inr rfl) (by simp [relS, hc]) h
theorem do19 (X Y : V) (hX : rightB X = true) (hY : rightB Y = true) (A : Option Addr) (w : World) (hls : RdVs anyB w (.slice A 2 2) 0 [X, Y]) (hl : Hid (CodeLaid w)) :
    Calls Tryz.prog 12 #[.int .i64 19, aggV 0 0, .slice A 2 2] w (AnsPost w (.mk (cmpK 19 X Y) (cmpN 19 X Y) [] [] []) (cmpE 19 X Y)) :=
  prim_Do_19 V.zero [X, Y] _ A 2 anyB w (zero_rd _ _) hls (Nat.le_refl _) (by decide) hl (fits_cmp 19 X Y hX hY (by simp)) _ _ fun w1 p hb hp => by
    cases ho : ordered X Y with
    | true =>
      rcases ordered_cases ho with ⟨h1, h2⟩ | ⟨h1, h2⟩
      · exact (prim_lt_int X Y h1 h2 _ _ _ _ _ A 2 p anyB w1 (hls.below hb) hp).mono fun e w' h => ord_ans ho (by simp [relS]) h
      · exact (prim_lt_txt X Y h1 h2 _ _ _ _ _ A 2 p anyB w1 (hls.below hb) hp).mono fun e w' h => ord_ans ho (by simp [relS]) h
    | false =>
      obtain ⟨h1, h2⟩ := ordered_not ho
      exact (prim_ord_not X Y h1 h2 _ _ _ _ _ _ A 2 anyB w1 (hls.below hb)).mono fun e w' h => ord_trap (by decide) (by decide) ho h
theorem do20 (X Y : V) (hX : rightB X = true) (hY : rightB Y = true) (A : Option Addr) (w : World) (hls : RdVs anyB w (.slice A 2 2) 0 [X, Y]) (hl : Hid (CodeLaid w)) :
    Calls Tryz.prog 12 #[.int .i64 20, aggV 0 0, .slice A 2 2] w (AnsPost w (.mk (cmpK 20 X Y) (cmpN 20 X Y) [] [] []) (cmpE 20 X Y)) :=
  prim_Do_20 V.zero [X, Y] _ A 2 anyB w (zero_rd _ _) hls (Nat.le_refl _) (by decide) hl (fits_cmp 20 X Y hX hY (by simp)) _ _ fun w1 p hb hp => by
    cases ho : ordered X Y with
    | true =>
      rcases ordered_cases ho with ⟨h1, h2⟩ | ⟨h1, h2⟩
      · exact (prim_le_int X Y h1 h2 _ _ _ _ _ A 2 p anyB w1 (hls.below hb) hp).mono fun e w' h => ord_ans ho (by simp [relS]) h
      · exact (prim_le_txt X Y h1 h2 _ _ _ _ _ A 2 p anyB w1 (hls.below hb) hp).mono fun e w' h => ord_ans ho (by simp [relS]) h
    | false =>
      obtain ⟨h1, h2⟩ := ordered_not ho
      exact (prim_ord_not X Y h1 h2 _ _ _ _ _ _ A 2 anyB w1 (hls.below hb)).mono fun e w' h => ord_trap (by decide) (by decide) ho h
theorem do21 (X Y : V) (hX : rightB X = true) (hY : rightB Y = true) (A : Option Addr) (w : World) (hls : RdVs anyB w (.slice A 2 2) 0 [X, Y]) (hl : Hid (CodeLaid w)) :
    Calls Tryz.prog 12 #[.int .i64 21, aggV 0 0, .slice A 2 2] w (AnsPost w (.mk (cmpK 21 X Y) (cmpN 21 X Y) [] [] []) (cmpE 21 X Y)) :=
  prim_Do_21 V.zero [X, Y] _ A 2 anyB w (zero_rd _ _) hls (Nat.le_refl _) (by decide) hl (fits_cmp 21 X Y hX hY (by simp)) _ _ fun w1 p hb hp => by
    cases ho : ordered X Y with
    | true =>
      rcases ordered_cases ho with ⟨h1, h2⟩ | ⟨h1, h2⟩
      · exact (prim_gt_int X Y h1 h2 _ _ _ _ _ A 2 p anyB w1 (hls.below hb) hp).mono fun e w' h => ord_ans ho (by simp [relS]) h
      · exact (prim_gt_txt X Y h1 h2 _ _ _ _ _ A 2 p anyB w1 (hls.below hb) hp).mono fun e w' h => ord_ans ho (by simp [relS]) h
    | false =>
      obtain ⟨h1, h2⟩ := ordered_not ho
      exact (prim_ord_not X Y h1 h2 _ _ _ _ _ _ A 2 anyB w1 (hls.below hb)).mono fun e w' h => ord_trap (by decide) (by decide) ho h
theorem do22 (X Y : V) (hX : rightB X = true) (hY : rightB Y = true) (A : Option Addr) (w : World) (hls : RdVs anyB w (.slice A 2 2) 0 [X, Y]) (hl : Hid (CodeLaid w)) :
    Calls Tryz.prog 12 #[.int .i64 22, aggV 0 0, .slice A 2 2] w (AnsPost w (.mk (cmpK 22 X Y) (cmpN 22 X Y) [] [] []) (cmpE 22 X Y)) :=
  prim_Do_22 V.zero [X, Y] _ A 2 anyB w (zero_rd _ _) hls (Nat.le_refl _) (by decide) hl (fits_cmp 22 X Y hX hY (by simp)) _ _ fun w1 p hb hp => by
    cases ho : ordered X Y with
    | true =>
      rcases ordered_cases ho with ⟨h1, h2⟩ | ⟨h1, h2⟩
      · exact (prim_ge_int X Y h1 h2 _ _ _ _ _ A 2 p anyB w1 (hls.below hb) hp).mono fun e w' h => ord_ans ho (by simp [relS]) h
      · exact (prim_ge_txt X Y h1 h2 _ _ _ _ _ A 2 p anyB w1 (hls.below hb) hp).mono fun e w' h => ord_ans ho (by simp [relS]) h
    | false =>
      obtain ⟨h1, h2⟩ := ordered_not ho
      exact (prim_ord_not X Y h1 h2 _ _ _ _ _ _ A 2 anyB w1 (hls.below hb)).mono fun e w' h => ord_trap (by decide) (by decide) ho h
end Go.Proofs.YtacaknkfddlklaaGreatDoor
namespace Go.Proofs.YtacaknkfddlklaaGreatDoor
open Go.RowKit Go.IntWalk

theorem tr_of {op : Int} {a b R : V} {t : Int} {va vb : Value} {oka okb : Nat → Prop} {w : World} (hva : RdV oka w va a) (hvb : RdV okb w vb b) (hl : Hid (CodeLaid w))
    (HD : Hid (∀ A W, RdVs anyB W (.slice A 2 2) 0 [a, b] → Hid (CodeLaid W) → Calls Tryz.prog 12 #[.int .i64 op, aggV 0 0, .slice A 2 2] W (AnsPost W R t)))
    {E O : Bool} (hE : (R.num == 1) = E) (hO : (t == 0 && R.kind == 1) = O) : Hid (TrOK op va vb w E O) := Lib.hid fun W hb => by
  have h := law_truth op a b R t va vb oka okb W (hva.below hb) (hvb.below hb) (Lib.hid (hl.out.below hb)) HD
  rw [hE, hO] at h
  exact h
theorem tr_bad {op : Int} (h24 : op ≠ 24) {a b : V} (h : ¬ (rightB a = true ∧ rightB b = true)) {va vb : Value} {oka okb : Nat → Prop} {w : World} (hva : RdV oka w va a) (hvb : RdV okb w vb b) (hl : Hid (CodeLaid w)) : Hid (TrOK op va vb w false false) :=
  tr_of (R := V.zero) (t := 3) hva hvb hl (Lib.hid fun A W h1 h2 => (prim_Do_bad op V.zero [a, b] _ A 2 anyB W (zero_rd _ _) h1 (Nat.le_refl _) (by decide) h2 h24 (not_cmp op a b h)).mono fun e w' h => AnsPost.of i64ok_0 i64ok_0 h) rfl rfl
def EB (op : Int) (a b : V) : Bool := cmpN op a b == 1
def OB (op : Int) (a b : V) : Bool := cmpE op a b == 0 && cmpK op a b == 1
theorem tr_good {op : Int} (h : op = 17 ∨ op = 18 ∨ op = 19 ∨ op = 20 ∨ op = 21 ∨ op = 22) {a b : V} (ha : rightB a = true) (hb : rightB b = true) {va vb : Value} {oka okb : Nat → Prop} {w : World} (hva : RdV oka w va a) (hvb : RdV okb w vb b) (hl : Hid (CodeLaid w)) : Hid (TrOK op va vb w (EB op a b) (OB op a b)) := by
  refine tr_of (R := .mk (cmpK op a b) (cmpN op a b) [] [] []) (t := cmpE op a b) hva hvb hl (Lib.hid fun A W h1 h2 => ?_) rfl rfl
  rcases h with rfl | rfl | rfl | rfl | rfl | rfl
  · exact do17 a b ha hb A W h1 h2
  · exact do18 a b ha hb A W h1 h2
  · exact do19 a b ha hb A W h1 h2
  · exact do20 a b ha hb A W h1 h2
  · exact do21 a b ha hb A W h1 h2
  · exact do22 a b ha hb A W h1 h2
theorem eb_yes {op : Int} {a b : V} (h : op = 17 ∨ op = 18 ∨ ordered a b = true) : EB op a b = relS op (compS a b) ∧ OB op a b = true := by
  constructor
  · unfold EB cmpN
    rw [if_pos h]
    cases relS op (compS a b) <;> rfl
  · unfold OB cmpE cmpK
    rw [if_pos h, if_pos h]
    rfl
theorem ob_no {op : Int} {a b : V} (h7 : op ≠ 17) (h8 : op ≠ 18) (h : ordered a b = false) : OB op a b = false := by
  unfold OB cmpE
  rw [if_neg (by simp [h7, h8, h])]
  rfl
theorem law_PrimCompares (a b : V) (va vb : Value) (oka okb : Nat → Prop) (w : World) (hva : RdV oka w va a) (hvb : RdV okb w vb b) (hl : Hid (CodeLaid w)) :
    Calls Tryz.prog 6 #[va, vb] w fun e w' => e = .returned (.bool true) ∧ Below w.heap.size w w' := by
  have hEy : ∀ (X : V) (v : Value) (ok : Nat → Prop), rightB X = true → Hid (∀ W, RdV ok W v X → Calls Tryz.prog 23 #[v] W fun e w' => Below W.heap.size W w' ∧ ∃ r, e = .returned (.tuple #[r, .int .i64 0]) ∧ RdBy w' r (encS X)) :=
    fun X v ok h => Lib.hid fun W hv => (wire_Encode X v ok W hv).mono fun e w' ⟨hb, hh⟩ => ⟨hb, by
      rcases hh with ⟨_, hh⟩ | ⟨hf, _⟩
      · exact hh
      · rw [h] at hf; cases hf⟩
  have hEn : ∀ (X : V) (v : Value) (ok : Nat → Prop), rightB X = false → Hid (∀ W, RdV ok W v X → Calls Tryz.prog 23 #[v] W fun e w' => Below W.heap.size W w' ∧ e = .returned (.tuple #[.slice none 0 0, .int .i64 40])) :=
    fun X v ok h => Lib.hid fun W hv => (wire_Encode X v ok W hv).mono fun e w' ⟨hb, hh⟩ => ⟨hb, by
      rcases hh with ⟨ht, hh⟩ | ⟨_, hf⟩
      · rw [h] at ht; cases ht
      · exact hf⟩
  have hEa : ∀ (X : V) (v : Value) (ok : Nat → Prop), Hid (∀ W, RdV ok W v X → Calls Tryz.prog 23 #[v] W fun e w' => Below W.heap.size W w' ∧ ∃ r n, e = .returned (.tuple #[r, .int .i64 n])) :=
    fun X v ok => Lib.hid fun W hv => (wire_Encode X v ok W hv).mono fun e w' ⟨hb, hh⟩ => ⟨hb, by
      rcases hh with ⟨_, r, hh, _⟩ | ⟨_, hf⟩
      · exact ⟨r, 0, hh⟩
      · exact ⟨_, 40, hf⟩⟩
  by_cases hr : rightB a = true ∧ rightB b = true
  · obtain ⟨ha, hb⟩ := hr
    refine cmp_yes a b (EB 17 a b) (EB 18 a b) (EB 19 a b) (EB 20 a b) (EB 21 a b) (EB 22 a b) (OB 17 a b) (OB 18 a b) (OB 19 a b) (OB 20 a b) (OB 21 a b) (OB 22 a b) va vb oka okb w hva hvb hl
      (tr_good (by simp) ha hb hva hvb hl) (tr_good (by simp) ha hb hva hvb hl) (tr_good (by simp) ha hb hva hvb hl) (tr_good (by simp) ha hb hva hvb hl) (tr_good (by simp) ha hb hva hvb hl) (tr_good (by simp) ha hb hva hvb hl) ?_ (hEy a va oka ha) (hEy b vb okb hb)
    have hc := order_bytes ha hb
    have hcs : compS a b = ordS a b := if_pos ⟨ha, hb⟩
    obtain ⟨e17, o17⟩ := eb_yes (op := 17) (a := a) (b := b) (by simp)
    obtain ⟨e18, o18⟩ := eb_yes (op := 18) (a := a) (b := b) (by simp)
    have h18 : EB 18 a b = !EB 17 a b := by rw [e17, e18]; simp [relS]
    cases ho : ordered a b with
    | true =>
      left
      obtain ⟨e19, o19⟩ := eb_yes (op := 19) (a := a) (b := b) (by simp [ho])
      obtain ⟨e20, o20⟩ := eb_yes (op := 20) (a := a) (b := b) (by simp [ho])
      obtain ⟨e21, o21⟩ := eb_yes (op := 21) (a := a) (b := b) (by simp [ho])
      obtain ⟨e22, o22⟩ := eb_yes (op := 22) (a := a) (b := b) (by simp [ho])
      refine ⟨o17, o18, o19, o20, o21, o22, h18, ?_, ?_, ?_⟩
      · rw [e17, e19, e20, e21, e22, hcs]
        rcases Int.lt_trichotomy (ordS a b) 0 with h | h | h
        · refine Or.inr (Or.inl ⟨?_, ?_, ?_, ?_, ?_, ?_⟩)
          · simp [relS]; omega
          · rw [beq_eq_false_iff_ne]; exact fun he => by have := hc.2 he; omega
          · simp [relS]; omega
          · simp [relS]; omega
          · simp [relS]; omega
          · simp [relS]; omega
        · refine Or.inl ⟨?_, hc.1 h, ?_, ?_, ?_, ?_⟩ <;> (rw [h]; rfl)
        · refine Or.inr (Or.inr ⟨?_, ?_, ?_, ?_, ?_, ?_⟩)
          · simp [relS]; omega
          · rw [beq_eq_false_iff_ne]; exact fun he => by have := hc.2 he; omega
          · simp [relS]; omega
          · simp [relS]; omega
          · simp [relS]; omega
          · simp [relS]; omega
      · rcases ordered_cases ho with ⟨h1, h2⟩ | ⟨h1, h2⟩ <;> simp [h1, h2]
      · rcases ordered_cases ho with ⟨h1, h2⟩ | ⟨h1, h2⟩ <;> simp [h1]
    | false =>
      right
      refine ⟨o17, o18, ⟨ob_no (by decide) (by decide) ho, ob_no (by decide) (by decide) ho, ob_no (by decide) (by decide) ho, ob_no (by decide) (by decide) ho⟩, h18, ?_, ?_⟩
      · rw [e17, hcs]
        by_cases h : ordS a b = 0
        · exact Or.inl ⟨by simp [relS, h], hc.1 h⟩
        · exact Or.inr ⟨by simp [relS, h], by rw [beq_eq_false_iff_ne]; exact fun he => h (hc.2 he)⟩
      · obtain ⟨h1, h2⟩ := ordered_not ho
        by_cases h : a.kind = b.kind
        · refine Or.inr ⟨by simpa using h, ?_, ?_⟩
          · rw [beq_eq_false_iff_ne]; exact fun h3 => h1 ⟨h3, by omega⟩
          · rw [beq_eq_false_iff_ne]; exact fun h3 => h2 ⟨h3, by omega⟩
        · exact Or.inl (by rw [beq_eq_false_iff_ne]; exact h)
  · have tb : ∀ op : Int, op ≠ 24 → Hid (TrOK op va vb w false false) := fun op h24 => tr_bad h24 hr hva hvb hl
    cases ha : rightB a with
    | false => exact cmp_no1 a b false false false false false false false false false false false false va vb oka okb w hva hvb hl (tb 17 (by decide)) (tb 18 (by decide)) (tb 19 (by decide)) (tb 20 (by decide)) (tb 21 (by decide)) (tb 22 (by decide)) ⟨rfl, rfl, rfl, rfl, rfl, rfl⟩ (hEn a va oka ha) (hEa b vb okb)
    | true =>
      have hb : rightB b = false := by
        cases hb : rightB b with
        | false => rfl
        | true => exact absurd ⟨ha, hb⟩ hr
      exact cmp_no2 a b false false false false false false false false false false false false va vb oka okb w hva hvb hl (tb 17 (by decide)) (tb 18 (by decide)) (tb 19 (by decide)) (tb 20 (by decide)) (tb 21 (by decide)) (tb 22 (by decide)) ⟨rfl, rfl, rfl, rfl, rfl, rfl⟩ (hEy a va oka ha) (hEn b vb okb hb)
end Go.Proofs.YtacaknkfddlklaaGreatDoor
