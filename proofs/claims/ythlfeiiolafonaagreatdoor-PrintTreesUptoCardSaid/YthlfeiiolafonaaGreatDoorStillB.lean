/- Contracts of the law's alike, same, stays, still, of what reads as the same. Contracts of the law's stays and still, of what reads as the same. -/
import Derived.Test.YthlfeiiolafonaaGreatDoorPrintRS
import Derived.Test.YthlfeiiolafonaaGreatDoorPrintCount
set_option linter.unusedVariables false
set_option linter.unusedSimpArgs false
namespace Go.Proofs.YthlfeiiolafonaaGreatDoor
open Go.RowKit Go.IntWalk Go.Sort

/-- a value's box -/
abbrev HeldV (g : Nat) (c0 c1 c2 c3 c4 : Value) (W : World) : Prop := Held g #[c0, c1, c2, c3, c4] 26 W
theorem HeldV.facts {g : Nat} {c0 c1 c2 c3 c4 : Value} {W : World} (h : HeldV g c0 c1 c2 c3 c4 W) : W.cell? ⟨g, 0, none⟩ = some c0 ∧ W.cell? ⟨g, 1, none⟩ = some c1 ∧ W.cell? ⟨g, 2, none⟩ = some c2 ∧ W.cell? ⟨g, 3, none⟩ = some c3 ∧ W.cell? ⟨g, 4, none⟩ = some c4 :=
  ⟨h.cell 0 rfl, h.cell 1 rfl, h.cell 2 rfl, h.cell 3 rfl, h.cell 4 rfl⟩
set_option maxRecDepth 20000 in
set_option maxHeartbeats 2000000 in
theorem law_alike (m : Nat) : ∀ (X : V) (va vb : Value) (oka okb : Nat → Prop) (w : World) (ha : RdV oka w va X) (hb : RdV okb w vb X) (hm : SizeOf.sizeOf X ≤ m),
    Calls Tryz.prog 94 #[va, vb] w fun e w' => e = .returned (.bool true) ∧ Below w.heap.size w w' := by
  induction m using Nat.strongRecOn with
  | _ m ih =>
  intro X va vb oka okb w ha hb hm
  obtain ⟨_, _, _, la, ka, hva, fa, la', ka'⟩ := ha.open
  obtain ⟨_, _, _, lb, kb, hvb, fb, lb', kb'⟩ := hb.open
  obtain ⟨A, c, B, d, rfl, h1, h2, h3, h4, h5, h6, h7⟩ := ha.form
  obtain ⟨A2, c2, B2, d2, rfl, i1, i2, i3, i4, i5, i6, i7⟩ := hb.form
  injection hva with hva
  simp only [Array.mk.injEq, List.cons.injEq, and_true, true_and] at hva
  obtain ⟨rfl, rfl⟩ := hva
  injection hvb with hvb
  simp only [Array.mk.injEq, List.cons.injEq, and_true, true_and] at hvb
  obtain ⟨rfl, rfl⟩ := hvb
  have HLa := Lib.hid la'
  have HLb := Lib.hid lb'
  have HKa := Lib.hid ka'
  have HKb := Lib.hid kb'
  have Hm := Lib.hid hm
  have Hih := Lib.hid ih
  have H0 := Lib.hid (two_al w (.cells #[.int .i64 X.kind, .int .i64 X.num, .string ⟨X.str.toArray⟩, .slice A X.parts.length c, .slice B X.keys.length d] 26) (.cells #[.int .i64 X.kind, .int .i64 X.num, .string ⟨X.str.toArray⟩, .slice A2 X.parts.length c2, .slice B2 X.keys.length d2] 26))
  have HA0 := Lib.hid (show HeldV w.heap.size _ _ _ _ _ ((w.alloc (.cells #[.int .i64 X.kind, .int .i64 X.num, .string ⟨X.str.toArray⟩, .slice A X.parts.length c, .slice B X.keys.length d] 26)).alloc (.cells #[.int .i64 X.kind, .int .i64 X.num, .string ⟨X.str.toArray⟩, .slice A2 X.parts.length c2, .slice B2 X.keys.length d2] 26)) from Held.below (Held.at rfl) (one_al _ _))
  have HB0 := Lib.hid (show HeldV (w.heap.size + 1) _ _ _ _ _ ((w.alloc (.cells #[.int .i64 X.kind, .int .i64 X.num, .string ⟨X.str.toArray⟩, .slice A X.parts.length c, .slice B X.keys.length d] 26)).alloc (.cells #[.int .i64 X.kind, .int .i64 X.num, .string ⟨X.str.toArray⟩, .slice A2 X.parts.length c2, .slice B2 X.keys.length d2] 26)) from Held.at (by simp))
  clear ha hb la' lb' ka' kb' fa fb hm ih
  go_enter Tryz.func94, Tryz.ntmps94
  obtain ⟨p0, p1, p2, p3, p4⟩ := HeldV.facts HA0.out
  obtain ⟨q0, q1, q2, q3, q4⟩ := HeldV.facts HB0.out
  go_wp2_with fail
  clear p0 p1 p2 p3 p4 q0 q1 q2 q3 q4
  go_loopw [5] (fun i wr => ∃ k : Nat, k ≤ X.keys.length ∧ i = .int .i64 (k : Int) ∧ Below ((w.alloc (.cells #[.int .i64 X.kind, .int .i64 X.num, .string ⟨X.str.toArray⟩, .slice A X.parts.length c, .slice B X.keys.length d] 26)).alloc (.cells #[.int .i64 X.kind, .int .i64 X.num, .string ⟨X.str.toArray⟩, .slice A2 X.parts.length c2, .slice B2 X.keys.length d2] 26)).heap.size ((w.alloc (.cells #[.int .i64 X.kind, .int .i64 X.num, .string ⟨X.str.toArray⟩, .slice A X.parts.length c, .slice B X.keys.length d] 26)).alloc (.cells #[.int .i64 X.kind, .int .i64 X.num, .string ⟨X.str.toArray⟩, .slice A2 X.parts.length c2, .slice B2 X.keys.length d2] 26)) wr) (fun i _ => X.keys.length - (intOf i).toNat)
  case atStart => exact ⟨0, Nat.zero_le _, rfl, Below.refl _ _⟩
  case round =>
    obtain ⟨k, hk, rfl, hB⟩ := hrel
    have HB := Lib.hid hB
    obtain ⟨p0, p1, p2, p3, p4⟩ := HeldV.facts (Held.below HA0.out hB)
    obtain ⟨q0, q1, q2, q3, q4⟩ := HeldV.facts (Held.below HB0.out hB)
    clear hB
    by_cases hlt : k < X.keys.length
    · have hlA : (k : Int) < (X.keys.length : Int) := by omega
      have h00 : (0 : Int) ≤ (k : Int) := by omega
      obtain ⟨g, off, rfl, _, kc, _⟩ := (HKa.out.below (bthen H0.out HB.out)).elem k hlt
      obtain ⟨g2, off2, rfl, _, kc2, _⟩ := (HKb.out.below (bthen H0.out HB.out)).elem k hlt
      generalize X.keys[k] = Y at *
      have y3 := cell_regrown p4
      have y4 := cell_regrown q4
      have y5 := cell_regrown kc
      have y6 := cell_regrown kc2
      go_upto_region 6 with fail
      clear p0 p1 p2 p3 p4 q0 q1 q2 q3 q4 kc kc2
      refine wp_region_quiet_below (by kernel_rfl) (by kernel_rfl) ?_
      repeat (quiet_step (fail))
      refine wpQuiet_nil ?_
      intro _ hw'
      obtain ⟨⟨dq, osq⟩, hw''⟩ := hw'
      subst hw''
      go_wp2_with fail
      exact ⟨⟨k + 1, by omega, by go_num, bthen HB.out (below_regrown _ dq osq)⟩, by simp [intOf]; omega⟩
    · have hlA : ¬ (k : Int) < (X.keys.length : Int) := by omega
      go_wp2_with fail
      clear p0 p1 p2 p3 p4 q0 q1 q2 q3 q4 hlt hlA hk
      go_loopw [6] (fun i wz => ∃ k : Nat, k ≤ X.parts.length ∧ i = .int .i64 (k : Int) ∧ Below ((w.alloc (.cells #[.int .i64 X.kind, .int .i64 X.num, .string ⟨X.str.toArray⟩, .slice A X.parts.length c, .slice B X.keys.length d] 26)).alloc (.cells #[.int .i64 X.kind, .int .i64 X.num, .string ⟨X.str.toArray⟩, .slice A2 X.parts.length c2, .slice B2 X.keys.length d2] 26)).heap.size ((w.alloc (.cells #[.int .i64 X.kind, .int .i64 X.num, .string ⟨X.str.toArray⟩, .slice A X.parts.length c, .slice B X.keys.length d] 26)).alloc (.cells #[.int .i64 X.kind, .int .i64 X.num, .string ⟨X.str.toArray⟩, .slice A2 X.parts.length c2, .slice B2 X.keys.length d2] 26)) wz) (fun i _ => X.parts.length - (intOf i).toNat)
      case atStart => exact ⟨0, Nat.zero_le _, rfl, HB.out⟩
      case round =>
        obtain ⟨k, hk, rfl, hB⟩ := hrel
        have HC := Lib.hid hB
        obtain ⟨p0, p1, p2, p3, p4⟩ := HeldV.facts (Held.below HA0.out hB)
        obtain ⟨q0, q1, q2, q3, q4⟩ := HeldV.facts (Held.below HB0.out hB)
        clear hB
        by_cases hlt : k < X.parts.length
        · have hlA : (k : Int) < (X.parts.length : Int) := by omega
          have h00 : (0 : Int) ≤ (k : Int) := by omega
          have hY := Hih.out (SizeOf.sizeOf X.parts[k]) (Nat.lt_of_lt_of_le (V.sz_part hlt) Hm.out) X.parts[k]
          obtain ⟨g, off, Aa, ca, Ba, da, rfl, _, ra, a0, a1, a2, a3, a4⟩ := (HLa.out.below (bthen H0.out HC.out)).elem k hlt
          obtain ⟨g2, off2, Ab, cb, Bb, db, rfl, _, rb, b0, b1, b2, b3, b4⟩ := (HLb.out.below (bthen H0.out HC.out)).elem k hlt
          generalize X.parts[k] = Y at *
          have cA := fun (d1 : Nat) (os : Array Obj) => Calls.regrown_of (hY (valV Y Aa ca Ba da) (valV Y Ab cb Bb db) oka okb (grow (redrawn wr d1) os) (ra.below (below_regrown _ d1 os)) (rb.below (below_regrown _ d1 os)) (Nat.le_refl _))
          have y3 := cell_regrown p3
          have y4 := cell_regrown q3
          have ya0 := cell_regrown a0
          have ya1 := cell_regrown a1
          have ya2 := cell_regrown a2
          have ya3 := cell_regrown a3
          have ya4 := cell_regrown a4
          have yb0 := cell_regrown b0
          have yb1 := cell_regrown b1
          have yb2 := cell_regrown b2
          have yb3 := cell_regrown b3
          have yb4 := cell_regrown b4
          clear hY ra rb
          go_upto_region 11 with fail
          clear p0 p1 p2 p3 p4 q0 q1 q2 q3 q4 a0 a1 a2 a3 a4 b0 b1 b2 b3 b4
          refine wp_region_quiet_below (by kernel_rfl) (by kernel_rfl) ?_
          repeat (quiet_step (with_reducible exact cA _ _))
          refine wpQuiet_nil ?_
          intro _ hw'
          obtain ⟨⟨dq, osq⟩, hw''⟩ := hw'
          subst hw''
          go_wp2_with fail
          exact ⟨⟨k + 1, by omega, by go_num, bthen HC.out (below_regrown _ dq osq)⟩, by simp [intOf]; omega⟩
        · have hlA : ¬ (k : Int) < (X.parts.length : Int) := by omega
          go_wp2_with fail
          go_ret
          exact ⟨rfl, bthen H0.out HC.out⟩
theorem five_of {ok : Nat → Prop} {w : World} {v : Value} {X : V} (h : RdV ok w v X) : ∃ A c B d, v = valV X A c B d := by
  obtain ⟨A, c, B, d, rfl, _⟩ := h.form
  exact ⟨A, c, B, d, rfl⟩
set_option maxRecDepth 20000 in
set_option maxHeartbeats 1000000 in
theorem law_same (X : V) (va vb : Value) (oka okb : Nat → Prop) (w : World) (ha : RdV oka w va X) (hb : RdV okb w vb X) :
    Calls Tryz.prog 58 #[va, vb] w fun e w' => e = .returned (.bool true) ∧ Below w.heap.size w w' := by
  obtain ⟨A, c, B, d, rfl⟩ := five_of ha
  obtain ⟨A2, c2, B2, d2, rfl⟩ := five_of hb
  have Ha := Lib.hid ha
  have Hb := Lib.hid hb
  have HF := Lib.hid (fun W hv => law_few X (valV X A2 c2 B2 d2) okb W hv)
  have HAl := Lib.hid (fun W ha hb => law_alike (SizeOf.sizeOf X) X (valV X A c B d) (valV X A2 c2 B2 d2) oka okb W ha hb (Nat.le_refl _))
  have H0 := Lib.hid (two_al w (.cells #[.int .i64 X.kind, .int .i64 X.num, .string ⟨X.str.toArray⟩, .slice A X.parts.length c, .slice B X.keys.length d] 26) (.cells #[.int .i64 X.kind, .int .i64 X.num, .string ⟨X.str.toArray⟩, .slice A2 X.parts.length c2, .slice B2 X.keys.length d2] 26))
  have HA0 := Lib.hid (show HeldV w.heap.size _ _ _ _ _ ((w.alloc (.cells #[.int .i64 X.kind, .int .i64 X.num, .string ⟨X.str.toArray⟩, .slice A X.parts.length c, .slice B X.keys.length d] 26)).alloc (.cells #[.int .i64 X.kind, .int .i64 X.num, .string ⟨X.str.toArray⟩, .slice A2 X.parts.length c2, .slice B2 X.keys.length d2] 26)) from Held.below (Held.at rfl) (one_al _ _))
  have HB0 := Lib.hid (show HeldV (w.heap.size + 1) _ _ _ _ _ ((w.alloc (.cells #[.int .i64 X.kind, .int .i64 X.num, .string ⟨X.str.toArray⟩, .slice A X.parts.length c, .slice B X.keys.length d] 26)).alloc (.cells #[.int .i64 X.kind, .int .i64 X.num, .string ⟨X.str.toArray⟩, .slice A2 X.parts.length c2, .slice B2 X.keys.length d2] 26)) from Held.at (by simp))
  clear ha hb
  go_enter Tryz.func58, Tryz.ntmps58
  go_wp2_with fail
  refine (HF.out _ (Hb.out.below H0.out)).mono ?_
  rintro e1 w1 ⟨rfl, hb⟩
  have HB := Lib.hid hb
  obtain ⟨p0, p1, p2, p3, p4⟩ := HeldV.facts (Held.below HA0.out hb)
  obtain ⟨q0, q1, q2, q3, q4⟩ := HeldV.facts (Held.below HB0.out hb)
  clear hb
  cases hf : decide (vsize X ≤ 5000) with
  | false =>
    clear hf
    go_wp2_with fail
    go_ret
    exact ⟨rfl, bthen H0.out HB.out⟩
  | true =>
    clear hf
    go_wp2_with fail
    refine (HAl.out _ (Ha.out.below (bthen H0.out HB.out)) (Hb.out.below (bthen H0.out HB.out))).mono ?_
    rintro e2 w2 ⟨rfl, hb⟩
    have HB2 := Lib.hid (bthen HB.out hb)
    clear hb
    go_wp2_with fail
    go_ret
    exact ⟨rfl, bthen H0.out HB2.out⟩
end Go.Proofs.YthlfeiiolafonaaGreatDoor
namespace Go.Proofs.YthlfeiiolafonaaGreatDoor
open Go.RowKit Go.IntWalk Go.Sort

set_option maxRecDepth 20000 in
set_option maxHeartbeats 2000000 in
theorem law_stays (m : Nat) : ∀ (X : N) (va vb : Value) (oka okb : Nat → Prop) (w : World) (ha : RdN oka w va X) (hb : RdN okb w vb X) (hm : SizeOf.sizeOf X ≤ m),
    Calls Tryz.prog 31 #[va, vb] w fun e w' => e = .returned (.bool true) ∧ Below w.heap.size w w' := by
  induction m using Nat.strongRecOn with
  | _ m ih =>
  intro X va vb oka okb w ha hb hm
  obtain ⟨A, c, B, d, K, e, rfl, hna⟩ := ha.form
  obtain ⟨A2, c2, B2, d2, K2, e2, rfl, hnb⟩ := hb.form
  have hlen := hna.len
  have HLa := Lib.hid hna.kids
  have HLb := Lib.hid hnb.kids
  have Hm := Lib.hid hm
  have Hih := Lib.hid ih
  have HSm := Lib.hid (fun (W : World) (hw : Below w.heap.size w W) => law_same X.val (valV X.val A c B d) (valV X.val A2 c2 B2 d2) oka okb W (hna.val.below hw) (hnb.val.below hw))
  have H0 := Lib.hid (two_al w (boxN X A c B d K e) (boxN X A2 c2 B2 d2 K2 e2))
  have HA0 := Lib.hid (show HeldN w.heap.size _ _ _ _ _ _ _ _ _ _ ((w.alloc (boxN X A c B d K e)).alloc (boxN X A2 c2 B2 d2 K2 e2)) from Held.below (Held.at rfl) (one_al _ _))
  have HB0 := Lib.hid (show HeldN (w.heap.size + 1) _ _ _ _ _ _ _ _ _ _ ((w.alloc (boxN X A c B d K e)).alloc (boxN X A2 c2 B2 d2 K2 e2)) from Held.at (by simp))
  clear ha hb hna hnb hm ih
  go_enter Tryz.func31, Tryz.ntmps31
  obtain ⟨p0, p1, p2, p3, p4, p5, p6, p7, p8, p9⟩ := HeldN.facts HA0.out
  obtain ⟨q0, q1, q2, q3, q4, q5, q6, q7, q8, q9⟩ := HeldN.facts HB0.out
  go_wp2_with fail
  refine (HSm.out _ H0.out).mono ?_
  rintro e1 w1 ⟨rfl, hb⟩
  have HB1 := Lib.hid hb
  clear p0 p1 p2 p3 p4 p5 p6 p7 p8 p9 q0 q1 q2 q3 q4 q5 q6 q7 q8 q9
  obtain ⟨p0, p1, p2, p3, p4, p5, p6, p7, p8, p9⟩ := HeldN.facts (Held.below HA0.out hb)
  obtain ⟨q0, q1, q2, q3, q4, q5, q6, q7, q8, q9⟩ := HeldN.facts (Held.below HB0.out hb)
  clear hb
  go_wp2_with fail
  clear p0 p1 p2 p3 p4 p5 p6 p7 p8 p9 q0 q1 q2 q3 q4 q5 q6 q7 q8 q9
  go_loopw [6] (fun i wz => ∃ k : Nat, k ≤ X.kids.length ∧ i = .int .i64 (k : Int) ∧ Below ((w.alloc (boxN X A c B d K e)).alloc (boxN X A2 c2 B2 d2 K2 e2)).heap.size ((w.alloc (boxN X A c B d K e)).alloc (boxN X A2 c2 B2 d2 K2 e2)) wz) (fun i _ => X.kids.length - (intOf i).toNat)
  case atStart => exact ⟨0, Nat.zero_le _, rfl, HB1.out⟩
  case round =>
    obtain ⟨k, hk, rfl, hB⟩ := hrel
    have HC := Lib.hid hB
    obtain ⟨p0, p1, p2, p3, p4, p5, p6, p7, p8, p9⟩ := HeldN.facts (Held.below HA0.out hB)
    obtain ⟨q0, q1, q2, q3, q4, q5, q6, q7, q8, q9⟩ := HeldN.facts (Held.below HB0.out hB)
    clear hB
    by_cases hlt : k < X.kids.length
    · have hlA : (k : Int) < (X.kids.length : Int) := by omega
      have h00 : (0 : Int) ≤ (k : Int) := by omega
      have hY := Hih.out (SizeOf.sizeOf X.kids[k]) (Nat.lt_of_lt_of_le (N.sz_kid hlt) Hm.out) X.kids[k]
      obtain ⟨g, off, Aa, ca, Ba, da, Ka, ea, rfl, _, ra, a0, a1, a2, a3, a4, a5, a6, a7, a8, a9⟩ := (HLa.out.below (bthen H0.out HC.out)).elem k hlt
      obtain ⟨g2, off2, Ab, cb, Bb, db, Kb, eb, rfl, _, rb, b0, b1, b2, b3, b4, b5, b6, b7, b8, b9⟩ := (HLb.out.below (bthen H0.out HC.out)).elem k hlt
      generalize X.kids[k] = Y at *
      have cA := fun (d1 : Nat) (os : Array Obj) => Calls.regrown_of (hY (valN Y Aa ca Ba da Ka ea) (valN Y Ab cb Bb db Kb eb) oka okb (grow (redrawn wr d1) os) (ra.rd.below (below_regrown _ d1 os)) (rb.rd.below (below_regrown _ d1 os)) (Nat.le_refl _))
      have y3 := cell_regrown p8
      have y4 := cell_regrown q8
      have ya0 := cell_regrown a0
      have ya1 := cell_regrown a1
      have ya2 := cell_regrown a2
      have ya3 := cell_regrown a3
      have ya4 := cell_regrown a4
      have ya5 := cell_regrown a5
      have ya6 := cell_regrown a6
      have ya7 := cell_regrown a7
      have ya8 := cell_regrown a8
      have ya9 := cell_regrown a9
      have yb0 := cell_regrown b0
      have yb1 := cell_regrown b1
      have yb2 := cell_regrown b2
      have yb3 := cell_regrown b3
      have yb4 := cell_regrown b4
      have yb5 := cell_regrown b5
      have yb6 := cell_regrown b6
      have yb7 := cell_regrown b7
      have yb8 := cell_regrown b8
      have yb9 := cell_regrown b9
      clear hY ra rb
      go_upto_region 7 with fail
      clear p0 p1 p2 p3 p4 p5 p6 p7 p8 p9 q0 q1 q2 q3 q4 q5 q6 q7 q8 q9 a0 a1 a2 a3 a4 a5 a6 a7 a8 a9 b0 b1 b2 b3 b4 b5 b6 b7 b8 b9
      refine wp_region_quiet_below (by kernel_rfl) (by kernel_rfl) ?_
      repeat (quiet_step (with_reducible exact cA _ _))
      refine wpQuiet_nil ?_
      intro _ hw'
      obtain ⟨⟨dq, osq⟩, hw''⟩ := hw'
      subst hw''
      go_wp2_with fail
      exact ⟨⟨k + 1, by omega, by go_num, bthen HC.out (below_regrown _ dq osq)⟩, by simp [intOf]; omega⟩
    · have hlA : ¬ (k : Int) < (X.kids.length : Int) := by omega
      go_wp2_with fail
      go_ret
      exact ⟨rfl, bthen H0.out HC.out⟩
set_option maxRecDepth 20000 in
set_option maxHeartbeats 1000000 in
theorem law_still (X : N) (va vb : Value) (oka okb : Nat → Prop) (w : World) (ha : RdN oka w va X) (hb : RdN okb w vb X) :
    Calls Tryz.prog 10 #[va, vb] w fun e w' => e = .returned (.bool true) ∧ Below w.heap.size w w' := by
  obtain ⟨A, c, B, d, K, e, rfl, hna⟩ := ha.form
  obtain ⟨A2, c2, B2, d2, K2, e2, rfl, hnb⟩ := hb.form
  have Ha := Lib.hid ha
  have Hb := Lib.hid hb
  have HF := Lib.hid (fun W hv => law_slim X (valN X A2 c2 B2 d2 K2 e2) okb W hv)
  have HAl := Lib.hid (fun W ha hb => law_stays (SizeOf.sizeOf X) X (valN X A c B d K e) (valN X A2 c2 B2 d2 K2 e2) oka okb W ha hb (Nat.le_refl _))
  have H0 := Lib.hid (two_al w (boxN X A c B d K e) (boxN X A2 c2 B2 d2 K2 e2))
  have HA0 := Lib.hid (show HeldN w.heap.size _ _ _ _ _ _ _ _ _ _ ((w.alloc (boxN X A c B d K e)).alloc (boxN X A2 c2 B2 d2 K2 e2)) from Held.below (Held.at rfl) (one_al _ _))
  have HB0 := Lib.hid (show HeldN (w.heap.size + 1) _ _ _ _ _ _ _ _ _ _ ((w.alloc (boxN X A c B d K e)).alloc (boxN X A2 c2 B2 d2 K2 e2)) from Held.at (by simp))
  clear ha hb hna hnb
  go_enter Tryz.func10, Tryz.ntmps10
  obtain ⟨q0, q1, q2, q3, q4, q5, q6, q7, q8, q9⟩ := HeldN.facts HB0.out
  go_wp2_with fail
  refine (HF.out _ (Hb.out.below H0.out)).mono ?_
  rintro e1 w1 ⟨rfl, hb⟩
  have HB := Lib.hid hb
  clear q0 q1 q2 q3 q4 q5 q6 q7 q8 q9
  obtain ⟨p0, p1, p2, p3, p4, p5, p6, p7, p8, p9⟩ := HeldN.facts (Held.below HA0.out hb)
  obtain ⟨q0, q1, q2, q3, q4, q5, q6, q7, q8, q9⟩ := HeldN.facts (Held.below HB0.out hb)
  clear hb
  cases hf : decide (nsize X ≤ 40000) with
  | false =>
    clear hf
    go_wp2_with fail
    go_ret
    exact ⟨rfl, bthen H0.out HB.out⟩
  | true =>
    clear hf
    go_wp2_with fail
    refine (HAl.out _ (Ha.out.below (bthen H0.out HB.out)) (Hb.out.below (bthen H0.out HB.out))).mono ?_
    rintro e2 w2 ⟨rfl, hb⟩
    have HB2 := Lib.hid (bthen HB.out hb)
    clear hb
    go_wp2_with fail
    go_ret
    exact ⟨rfl, bthen H0.out HB2.out⟩
end Go.Proofs.YthlfeiiolafonaaGreatDoor
