/- The laws' Same, of values and trees that are the same. -/
import Derived.Test.YtlnhhffhmeekoaaGreatDoorGParA
import Derived.Test.YtlnhhffhmeekoaaGreatDoorPrintEq
import Derived.Lib.QuietBelow
import Derived.Deep.Cut
import Derived.RegionTactic
import Derived.Deep.RegionHeld3
set_option linter.unusedVariables false
set_option linter.unusedSimpArgs false
namespace Go.Proofs.YtlnhhffhmeekoaaGreatDoor
open Go.RowKit Go.IntWalk Go.Sort

theorem qeqN_b (X Y : N) : eqN X Y = ((X.kind == Y.kind) && ((X.text == Y.text) && ((X.flag == Y.flag) && (eqV X.val Y.val && eqNs X.kids Y.kids)))) := by
  cases X; cases Y
  rw [eqN]
  simp only [N.kind, N.text, N.val, N.flag, N.kids, Bool.beq_eq_decide_eq]
  try rfl
theorem qeqNs_len {l l' : List N} (h : eqNs l l' = true) : l.length = l'.length := by
  by_cases hl : l.length = l'.length
  · exact hl
  · rw [eqNs_len hl] at h; cases h
theorem q_al (w : World) (X : Obj) : Below w.heap.size w (w.alloc X) := (Below.refl _ _).alloc (Nat.le_refl _) X
theorem q_two (w : World) (a b : Array Value) (s t : TypeId) : Box w.heap.size a s ((w.alloc (.cells a s)).alloc (.cells b t)) ∧ Box (w.heap.size + 1) b t ((w.alloc (.cells a s)).alloc (.cells b t)) ∧ Below w.heap.size w ((w.alloc (.cells a s)).alloc (.cells b t)) := by
  refine ⟨(Box.new w a s).below (q_al _ _), ?_, bthen (q_al _ _) (q_al _ _)⟩
  have := Box.new (w.alloc (.cells a s)) b t
  simpa using this
theorem q_five {g : Nat} {c0 c1 c2 c3 c4 : Value} {t : TypeId} {W : World} (h : Box g #[c0, c1, c2, c3, c4] t W) : W.cell? ⟨g, 0, none⟩ = some c0 ∧ W.cell? ⟨g, 1, none⟩ = some c1 ∧ W.cell? ⟨g, 2, none⟩ = some c2 ∧ W.cell? ⟨g, 3, none⟩ = some c3 ∧ W.cell? ⟨g, 4, none⟩ = some c4 :=
  ⟨h.cell 0 rfl, h.cell 1 rfl, h.cell 2 rfl, h.cell 3 rfl, h.cell 4 rfl⟩
theorem q_ten {g : Nat} {c0 c1 c2 c3 c4 c5 c6 c7 c8 c9 : Value} {t : TypeId} {W : World} (h : Box g #[c0, c1, c2, c3, c4, c5, c6, c7, c8, c9] t W) : W.cell? ⟨g, 0, none⟩ = some c0 ∧ W.cell? ⟨g, 1, none⟩ = some c1 ∧ W.cell? ⟨g, 2, none⟩ = some c2 ∧ W.cell? ⟨g, 3, none⟩ = some c3 ∧ W.cell? ⟨g, 4, none⟩ = some c4 ∧
    W.cell? ⟨g, 5, none⟩ = some c5 ∧ W.cell? ⟨g, 6, none⟩ = some c6 ∧ W.cell? ⟨g, 7, none⟩ = some c7 ∧ W.cell? ⟨g, 8, none⟩ = some c8 ∧ W.cell? ⟨g, 9, none⟩ = some c9 :=
  ⟨h.cell 0 rfl, h.cell 1 rfl, h.cell 2 rfl, h.cell 3 rfl, h.cell 4 rfl, h.cell 5 rfl, h.cell 6 rfl, h.cell 7 rfl, h.cell 8 rfl, h.cell 9 rfl⟩
set_option maxRecDepth 20000 in
set_option maxHeartbeats 4000000 in
theorem q_sameV (m : Nat) : ∀ (X : V) (va vb : Value) (oka okb : Nat → Prop) (w : World) (ha : RdV oka w va X) (hb : RdV okb w vb X) (hm : SizeOf.sizeOf X ≤ m),
    Calls Tryz.prog 38 #[va, vb] w fun e w' => e = .returned (.bool true) ∧ Below w.heap.size w w' := by
  induction m using Nat.strongRecOn with
  | _ m ih =>
  intro X va vb oka okb w ha hb hm
  obtain ⟨_, _, _, la, ka, hva, fa, la', ka'⟩ := ha.open
  obtain ⟨_, _, _, lb, kb, hvb, fb, lb', kb'⟩ := hb.open
  obtain ⟨A, c, B, d, rfl, h1, h2, h3, h4, h5, h6, h7⟩ := ha.form
  obtain ⟨A2, c2, B2, d2, rfl, i1, i2, i3, i4, i5, i6, i7⟩ := hb.form
  injection hva with hva
  simp only [Array.mk.injEq, List.cons.injEq, and_true, true_and] at hva
  obtain ⟨rfl, rfl⟩ := hva
  injection hvb with hvb
  simp only [Array.mk.injEq, List.cons.injEq, and_true, true_and] at hvb
  obtain ⟨rfl, rfl⟩ := hvb
  have HLa := Lib.hid la'
  have HLb := Lib.hid lb'
  have HKa := Lib.hid ka'
  have HKb := Lib.hid kb'
  have Hm := Lib.hid hm
  have Hih := Lib.hid ih
  obtain ⟨b1, b2, b3⟩ := q_two w (#[.int .i64 X.kind, .int .i64 X.num, .string ⟨X.str.toArray⟩, .slice A X.parts.length c, .slice B X.keys.length d]) (#[.int .i64 X.kind, .int .i64 X.num, .string ⟨X.str.toArray⟩, .slice A2 X.parts.length c2, .slice B2 X.keys.length d2]) 26 26
  have H0 := Lib.hid b3
  have HA0 := Lib.hid b1
  have HB0 := Lib.hid b2
  obtain ⟨p0, p1, p2, p3, p4⟩ := q_five b1
  obtain ⟨q0, q1, q2, q3, q4⟩ := q_five b2
  clear ha hb la' lb' ka' kb' fa fb hm ih b1 b2 b3
  go_enter Tryz.func38, Tryz.ntmps38
  go_wp2_with fail
  clear p0 p1 p2 p3 p4 q0 q1 q2 q3 q4
  generalize ((w.alloc (.cells #[.int .i64 X.kind, .int .i64 X.num, .string ⟨X.str.toArray⟩, .slice A X.parts.length c, .slice B X.keys.length d] 26)).alloc (.cells #[.int .i64 X.kind, .int .i64 X.num, .string ⟨X.str.toArray⟩, .slice A2 X.parts.length c2, .slice B2 X.keys.length d2] 26)) = w0 at *
  go_loopw [5] (fun i wr => ∃ k : Nat, k ≤ X.keys.length ∧ i = .int .i64 (k : Int) ∧ Below w0.heap.size w0 wr) (fun i _ => X.keys.length - (intOf i).toNat)
  case atStart => exact ⟨0, Nat.zero_le _, rfl, Below.refl _ _⟩
  case round =>
    obtain ⟨k, hk, rfl, hB⟩ := hrel
    have HB := Lib.hid hB
    obtain ⟨p0, p1, p2, p3, p4⟩ := q_five (HA0.out.below hB)
    obtain ⟨q0, q1, q2, q3, q4⟩ := q_five (HB0.out.below hB)
    clear hB
    by_cases hlt : k < X.keys.length
    · have hlA : (k : Int) < (X.keys.length : Int) := by omega
      have h00 : (0 : Int) ≤ (k : Int) := by omega
      obtain ⟨g, off, rfl, _, kc, _⟩ := (HKa.out.below (bthen H0.out HB.out)).elem k hlt
      obtain ⟨g2, off2, rfl, _, kc2, _⟩ := (HKb.out.below (bthen H0.out HB.out)).elem k hlt
      generalize X.keys[k] = Z1 at *
      have y3 := cell_regrown p4
      have y4 := cell_regrown q4
      have y5 := cell_regrown kc
      have y6 := cell_regrown kc2
      clear p0 p1 p2 p3 q0 q1 q2 q3 kc kc2
      go_upto_region 6 with fail
      clear p4 q4
      refine wp_region_quiet_below (by kernel_rfl) (by kernel_rfl) ?_
      repeat (quiet_step (fail))
      refine wpQuiet_nil ?_
      intro _ hw'
      obtain ⟨⟨dq, osq⟩, hw''⟩ := hw'
      subst hw''
      go_wp2_with fail
      exact ⟨⟨k + 1, by omega, by go_num, bthen HB.out (below_regrown _ dq osq)⟩, by simp [intOf]; omega⟩
    · have hlA : ¬ (k : Int) < (X.keys.length : Int) := by omega
      go_wp2_with fail
      clear p0 p1 p2 p3 p4 q0 q1 q2 q3 q4 hlt hlA hk
      go_loopw [6] (fun i wz => ∃ k : Nat, k ≤ X.parts.length ∧ i = .int .i64 (k : Int) ∧ Below w0.heap.size w0 wz) (fun i _ => X.parts.length - (intOf i).toNat)
      case atStart => exact ⟨0, Nat.zero_le _, rfl, HB.out⟩
      case round =>
        obtain ⟨k, hk, rfl, hB⟩ := hrel
        have HC := Lib.hid hB
        obtain ⟨p0, p1, p2, p3, p4⟩ := q_five (HA0.out.below hB)
        obtain ⟨q0, q1, q2, q3, q4⟩ := q_five (HB0.out.below hB)
        clear hB
        by_cases hlt : k < X.parts.length
        · have hlA : (k : Int) < (X.parts.length : Int) := by omega
          have h00 : (0 : Int) ≤ (k : Int) := by omega
          have hY := Hih.out (SizeOf.sizeOf X.parts[k]) (Nat.lt_of_lt_of_le (V.sz_part hlt) Hm.out) X.parts[k]
          obtain ⟨g, off, Aa, ca, Ba, da, rfl, _, ra, a0, a1, a2, a3, a4⟩ := (HLa.out.below (bthen H0.out HC.out)).elem k hlt
          obtain ⟨g2, off2, Ab, cb, Bb, db, rfl, _, rb, b0, b1, b2, b3, b4⟩ := (HLb.out.below (bthen H0.out HC.out)).elem k hlt
          generalize X.parts[k] = Z1 at *
          have cA := fun (d1 : Nat) (os : Array Obj) => Calls.regrown_of (hY (valV Z1 Aa ca Ba da) (valV Z1 Ab cb Bb db) oka okb (grow (redrawn wr d1) os) (ra.below (below_regrown _ d1 os)) (rb.below (below_regrown _ d1 os)) (Nat.le_refl _))
          have y3 := cell_regrown p3
          have y4 := cell_regrown q3
          have ya0 := cell_regrown a0
          have ya1 := cell_regrown a1
          have ya2 := cell_regrown a2
          have ya3 := cell_regrown a3
          have ya4 := cell_regrown a4
          have yb0 := cell_regrown b0
          have yb1 := cell_regrown b1
          have yb2 := cell_regrown b2
          have yb3 := cell_regrown b3
          have yb4 := cell_regrown b4
          clear hY ra rb
          go_upto_region 11 with fail
          clear p0 p1 p2 p3 p4 q0 q1 q2 q3 q4 a0 a1 a2 a3 a4 b0 b1 b2 b3 b4
          refine wp_region_quiet_below (by kernel_rfl) (by kernel_rfl) ?_
          repeat (quiet_step (with_reducible exact cA _ _))
          refine wpQuiet_nil ?_
          intro _ hw'
          obtain ⟨⟨dq, osq⟩, hw''⟩ := hw'
          subst hw''
          clear cA ya0 ya1 ya2 ya3 ya4 yb0 yb1 yb2 yb3 yb4
          go_wp2_with fail
          exact ⟨⟨k + 1, by omega, by go_num, bthen HC.out (below_regrown _ dq osq)⟩, by simp [intOf]; omega⟩
        · have hlA : ¬ (k : Int) < (X.parts.length : Int) := by omega
          go_wp2_with fail
          go_ret
          exact ⟨rfl, bthen H0.out HC.out⟩
set_option maxRecDepth 20000 in
set_option maxHeartbeats 4000000 in
theorem q_same (pl : Bool) (m : Nat) : ∀ (X Y : N) (va vb : Value) (oka okb : Nat → Prop) (w : World) (ha : RdN oka w va X) (hb : RdN okb w vb Y) (hm : SizeOf.sizeOf X ≤ m) (he : eqN X Y = true) (hpl : pl = true → X = Y),
    Calls Tryz.prog 14 #[va, vb, .bool pl] w fun e w' => e = .returned (.bool true) ∧ Below w.heap.size w w' := by
  induction m using Nat.strongRecOn with
  | _ m ih =>
  intro X Y va vb oka okb w ha hb hm he hpl
  obtain ⟨A, c, B, d, K, e, rfl, hna⟩ := ha.form
  obtain ⟨A2, c2, B2, d2, K2, e2, rfl, hnb⟩ := hb.form
  rw [qeqN_b] at he
  simp only [Bool.and_eq_true] at he
  obtain ⟨e0, e1, e2', ev, ek⟩ := he
  have hlen := qeqNs_len ek
  have hkid := (eqNs_at hlen).1 ek
  have hval := eqV_eq _ _ ev
  have h5 := hna.len
  have i5 := hnb.len
  have HLa := Lib.hid hna.kids
  have HLb := Lib.hid hnb.kids
  have Hm := Lib.hid hm
  have Hih := Lib.hid ih
  have Hlen := Lib.hid hlen
  have Hkid := Lib.hid hkid
  have Hpl := Lib.hid hpl
  have hvb : RdV okb w (valV Y.val A2 c2 B2 d2) X.val := by rw [hval]; exact hnb.val
  have HS := Lib.hid (fun (W : World) (hw : Below w.heap.size w W) => q_sameV (SizeOf.sizeOf X.val) X.val (valV X.val A c B d) (valV Y.val A2 c2 B2 d2) oka okb W (hna.val.below hw) (hvb.below hw) (Nat.le_refl _))
  obtain ⟨b1, b2, b3⟩ := q_two w (#[.int .i64 X.kind, .string ⟨X.text.toArray⟩, .int .i64 X.val.kind, .int .i64 X.val.num, .string ⟨X.val.str.toArray⟩, .slice A X.val.parts.length c, .slice B X.val.keys.length d, .bool X.flag, .slice K X.kids.length e, .int .i64 X.spot]) (#[.int .i64 Y.kind, .string ⟨Y.text.toArray⟩, .int .i64 Y.val.kind, .int .i64 Y.val.num, .string ⟨Y.val.str.toArray⟩, .slice A2 Y.val.parts.length c2, .slice B2 Y.val.keys.length d2, .bool Y.flag, .slice K2 Y.kids.length e2, .int .i64 Y.spot]) 29 29
  have H0 := Lib.hid b3
  have HA0 := Lib.hid b1
  have HB0 := Lib.hid b2
  have hc0 : (X.kind != Y.kind) = false := by simpa using e0
  have hc1 : (X.text == Y.text) = true := e1
  have hc2 : (X.flag == Y.flag) = true := e2'
  have hc3 : ((X.kids.length : Int) != (Y.kids.length : Int)) = false := by simp; omega
  obtain ⟨p0, p1, p2, p3, p4, p5, p6, p7, p8, p9⟩ := q_ten b1
  obtain ⟨q0, q1, q2, q3, q4, q5, q6, q7, q8, q9⟩ := q_ten b2
  clear ha hb hna hnb hm ih b1 b2 b3 e0 e1 e2' ev ek hlen hkid hval hvb hpl
  go_enter Tryz.func14, Tryz.ntmps14
  go_wp2_with fail
  refine (HS.out _ H0.out).mono ?_
  rintro e1 w1 ⟨rfl, hb⟩
  clear p0 p1 p2 p3 p4 p5 p6 p7 p8 p9 q0 q1 q2 q3 q4 q5 q6 q7 q8 q9
  have HA1 := Lib.hid (HA0.out.below hb)
  have HB1 := Lib.hid (HB0.out.below hb)
  have HS1 := Lib.hid (bthen H0.out hb)
  clear hb HA0 HB0 H0 HS
  obtain ⟨p0, p1, p2, p3, p4, p5, p6, p7, p8, p9⟩ := q_ten HA1.out
  obtain ⟨q0, q1, q2, q3, q4, q5, q6, q7, q8, q9⟩ := q_ten HB1.out
  cases pl with
  | false =>
    go_wp2_with fail
    clear p0 p1 p2 p3 p4 p5 p6 p7 p8 p9 q0 q1 q2 q3 q4 q5 q6 q7 q8 q9 hc0 hc1 hc2 hc3
    go_loopw [8] (fun i wz => ∃ k : Nat, k ≤ X.kids.length ∧ i = .int .i64 (k : Int) ∧ Below w1.heap.size w1 wz) (fun i _ => X.kids.length - (intOf i).toNat)
    case atStart => exact ⟨0, Nat.zero_le _, rfl, Below.refl _ _⟩
    case round =>
      obtain ⟨k, hk, rfl, hB⟩ := hrel
      have HC := Lib.hid hB
      obtain ⟨p0, p1, p2, p3, p4, p5, p6, p7, p8, p9⟩ := q_ten (HA1.out.below hB)
      obtain ⟨q0, q1, q2, q3, q4, q5, q6, q7, q8, q9⟩ := q_ten (HB1.out.below hB)
      clear hB
      by_cases hlt : k < X.kids.length
      · have hlA : (k : Int) < (X.kids.length : Int) := by omega
        have h00 : (0 : Int) ≤ (k : Int) := by omega
        have hlt2 : k < Y.kids.length := by have := Hlen.out; omega
        have hlB : (k : Int) < (Y.kids.length : Int) := by omega
        have hY := Hih.out (SizeOf.sizeOf X.kids[k]) (Nat.lt_of_lt_of_le (N.sz_kid hlt) Hm.out) X.kids[k] Y.kids[k]
        obtain ⟨g, off, Aa, ca, Ba, da, Ka, ea, rfl, _, ra, a0, a1, a2, a3, a4, a5, a6, a7, a8, a9⟩ := (HLa.out.below (bthen HS1.out HC.out)).elem k hlt
        obtain ⟨g2, off2, Ab, cb, Bb, db, Kb, eb, rfl, _, rb, b0, b1, b2, b3, b4, b5, b6, b7, b8, b9⟩ := (HLb.out.below (bthen HS1.out HC.out)).elem k hlt2
        have hek := Hkid.out k hlt hlt2
        have hpk : false = true → X.kids[k] = Y.kids[k] := fun h => by
          have hx := Hpl.out h
          subst hx
          rfl
        generalize X.kids[k] = Z1 at *
        generalize Y.kids[k] = Z2 at *
        have cA := fun (d1 : Nat) (os : Array Obj) => Calls.regrown_of (hY (valN Z1 Aa ca Ba da Ka ea) (valN Z2 Ab cb Bb db Kb eb) oka okb (grow (redrawn wr d1) os) (ra.rd.below (below_regrown _ d1 os)) (rb.rd.below (below_regrown _ d1 os)) (Nat.le_refl _) hek hpk)
        have y3 := cell_regrown p8
        have y4 := cell_regrown q8
        have ya0 := cell_regrown a0
        have ya1 := cell_regrown a1
        have ya2 := cell_regrown a2
        have ya3 := cell_regrown a3
        have ya4 := cell_regrown a4
        have ya5 := cell_regrown a5
        have ya6 := cell_regrown a6
        have ya7 := cell_regrown a7
        have ya8 := cell_regrown a8
        have ya9 := cell_regrown a9
        have yb0 := cell_regrown b0
        have yb1 := cell_regrown b1
        have yb2 := cell_regrown b2
        have yb3 := cell_regrown b3
        have yb4 := cell_regrown b4
        have yb5 := cell_regrown b5
        have yb6 := cell_regrown b6
        have yb7 := cell_regrown b7
        have yb8 := cell_regrown b8
        have yb9 := cell_regrown b9
        clear hY ra rb hlt2 hek hpk
        go_upto_region 7 with fail
        clear p0 p1 p2 p3 p4 p5 p6 p7 p8 p9 q0 q1 q2 q3 q4 q5 q6 q7 q8 q9 a0 a1 a2 a3 a4 a5 a6 a7 a8 a9 b0 b1 b2 b3 b4 b5 b6 b7 b8 b9
        refine wp_region_quiet_below (by kernel_rfl) (by kernel_rfl) ?_
        repeat (quiet_step (with_reducible exact cA _ _))
        refine wpQuiet_nil ?_
        intro _ hw'
        obtain ⟨⟨dq, osq⟩, hw''⟩ := hw'
        subst hw''
        clear cA ya0 ya1 ya2 ya3 ya4 ya5 ya6 ya7 ya8 ya9 yb0 yb1 yb2 yb3 yb4 yb5 yb6 yb7 yb8 yb9
        go_wp2_with fail
        exact ⟨⟨k + 1, by omega, by go_num, bthen HC.out (below_regrown _ dq osq)⟩, by simp [intOf]; omega⟩
      · have hlA : ¬ (k : Int) < (X.kids.length : Int) := by omega
        go_wp2_with fail
        go_ret
        exact ⟨rfl, bthen HS1.out HC.out⟩
  | true =>
    have hc4 : (X.spot != Y.spot) = false := by have hx := Hpl.out rfl; rw [hx]; simp
    go_wp2_with fail
    clear p0 p1 p2 p3 p4 p5 p6 p7 p8 p9 q0 q1 q2 q3 q4 q5 q6 q7 q8 q9 hc0 hc1 hc2 hc3 hc4
    go_loopw [8] (fun i wz => ∃ k : Nat, k ≤ X.kids.length ∧ i = .int .i64 (k : Int) ∧ Below w1.heap.size w1 wz) (fun i _ => X.kids.length - (intOf i).toNat)
    case atStart => exact ⟨0, Nat.zero_le _, rfl, Below.refl _ _⟩
    case round =>
      obtain ⟨k, hk, rfl, hB⟩ := hrel
      have HC := Lib.hid hB
      obtain ⟨p0, p1, p2, p3, p4, p5, p6, p7, p8, p9⟩ := q_ten (HA1.out.below hB)
      obtain ⟨q0, q1, q2, q3, q4, q5, q6, q7, q8, q9⟩ := q_ten (HB1.out.below hB)
      clear hB
      by_cases hlt : k < X.kids.length
      · have hlA : (k : Int) < (X.kids.length : Int) := by omega
        have h00 : (0 : Int) ≤ (k : Int) := by omega
        have hlt2 : k < Y.kids.length := by have := Hlen.out; omega
        have hlB : (k : Int) < (Y.kids.length : Int) := by omega
        have hY := Hih.out (SizeOf.sizeOf X.kids[k]) (Nat.lt_of_lt_of_le (N.sz_kid hlt) Hm.out) X.kids[k] Y.kids[k]
        obtain ⟨g, off, Aa, ca, Ba, da, Ka, ea, rfl, _, ra, a0, a1, a2, a3, a4, a5, a6, a7, a8, a9⟩ := (HLa.out.below (bthen HS1.out HC.out)).elem k hlt
        obtain ⟨g2, off2, Ab, cb, Bb, db, Kb, eb, rfl, _, rb, b0, b1, b2, b3, b4, b5, b6, b7, b8, b9⟩ := (HLb.out.below (bthen HS1.out HC.out)).elem k hlt2
        have hek := Hkid.out k hlt hlt2
        have hpk : X.kids[k] = Y.kids[k] := by
          have hx := Hpl.out trivial
          subst hx
          rfl
        generalize X.kids[k] = Z1 at *
        generalize Y.kids[k] = Z2 at *
        have cA := fun (d1 : Nat) (os : Array Obj) => Calls.regrown_of (hY (valN Z1 Aa ca Ba da Ka ea) (valN Z2 Ab cb Bb db Kb eb) oka okb (grow (redrawn wr d1) os) (ra.rd.below (below_regrown _ d1 os)) (rb.rd.below (below_regrown _ d1 os)) (Nat.le_refl _) hek (fun _ => hpk))
        have y3 := cell_regrown p8
        have y4 := cell_regrown q8
        have ya0 := cell_regrown a0
        have ya1 := cell_regrown a1
        have ya2 := cell_regrown a2
        have ya3 := cell_regrown a3
        have ya4 := cell_regrown a4
        have ya5 := cell_regrown a5
        have ya6 := cell_regrown a6
        have ya7 := cell_regrown a7
        have ya8 := cell_regrown a8
        have ya9 := cell_regrown a9
        have yb0 := cell_regrown b0
        have yb1 := cell_regrown b1
        have yb2 := cell_regrown b2
        have yb3 := cell_regrown b3
        have yb4 := cell_regrown b4
        have yb5 := cell_regrown b5
        have yb6 := cell_regrown b6
        have yb7 := cell_regrown b7
        have yb8 := cell_regrown b8
        have yb9 := cell_regrown b9
        clear hY ra rb hlt2 hek hpk
        go_upto_region 7 with fail
        clear p0 p1 p2 p3 p4 p5 p6 p7 p8 p9 q0 q1 q2 q3 q4 q5 q6 q7 q8 q9 a0 a1 a2 a3 a4 a5 a6 a7 a8 a9 b0 b1 b2 b3 b4 b5 b6 b7 b8 b9
        refine wp_region_quiet_below (by kernel_rfl) (by kernel_rfl) ?_
        repeat (quiet_step (with_reducible exact cA _ _))
        refine wpQuiet_nil ?_
        intro _ hw'
        obtain ⟨⟨dq, osq⟩, hw''⟩ := hw'
        subst hw''
        clear cA ya0 ya1 ya2 ya3 ya4 ya5 ya6 ya7 ya8 ya9 yb0 yb1 yb2 yb3 yb4 yb5 yb6 yb7 yb8 yb9
        go_wp2_with fail
        exact ⟨⟨k + 1, by omega, by go_num, bthen HC.out (below_regrown _ dq osq)⟩, by simp [intOf]; omega⟩
      · have hlA : ¬ (k : Int) < (X.kids.length : Int) := by omega
        go_wp2_with fail
        go_ret
        exact ⟨rfl, bthen HS1.out HC.out⟩
end Go.Proofs.YtlnhhffhmeekoaaGreatDoor
