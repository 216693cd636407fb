/- Contracts of the reference's sameValue, alike, Same. -/
import Derived.Test.YthlfeiiolafonaaDoorPrintSame2
set_option linter.unusedVariables false
set_option linter.unusedSimpArgs false
namespace Go.Proofs.YthlfeiiolafonaaDoor
open Go.RowKit Go.IntWalk Go.Sort

theorem eqV_all {X Y : V} (h0 : (X.kind == Y.kind) = true) (h1 : (X.num == Y.num) = true) (h2 : (X.str == Y.str) = true) (hk : X.keys = Y.keys) (hp : eqVs X.parts Y.parts = true) : eqV X Y = true := by
  rw [eqV_b, h0, h1, h2, hp, decide_eq_true hk]; rfl
theorem keys_all {a b : List (List UInt8)} (hl : a.length = b.length) (h : ∀ i (h : i < a.length) (h' : i < b.length), a[i] = b[i]) : a = b := List.ext_getElem hl h
set_option maxRecDepth 20000 in
set_option maxHeartbeats 4000000 in
theorem ref_sameValue (m : Nat) : ∀ (X Y : V) (va vb : Value) (oka okb : Nat → Prop) (w : World) (ha : RdV oka w va X) (hb : RdV okb w vb Y) (hm : SizeOf.sizeOf X ≤ m),
    Calls Tryd.prog 31 #[va, vb] w fun e w' => e = .returned (.bool (eqV X Y)) ∧ Below w.heap.size w w' := by
  induction m using Nat.strongRecOn with
  | _ m ih =>
  intro X Y va vb oka okb w ha hb hm
  obtain ⟨_, _, _, la, ka, hva, fa, la', ka'⟩ := ha.open
  obtain ⟨_, _, _, lb, kb, hvb, fb, lb', kb'⟩ := hb.open
  obtain ⟨A, c, B, d, rfl, h1, h2, h3, h4, h5, h6, h7⟩ := ha.form
  obtain ⟨A2, c2, B2, d2, rfl, i1, i2, i3, i4, i5, i6, i7⟩ := hb.form
  injection hva with hva
  simp only [Array.mk.injEq, List.cons.injEq, and_true, true_and] at hva
  obtain ⟨rfl, rfl⟩ := hva
  injection hvb with hvb
  simp only [Array.mk.injEq, List.cons.injEq, and_true, true_and] at hvb
  obtain ⟨rfl, rfl⟩ := hvb
  have HLa := Lib.hid la'
  have HLb := Lib.hid lb'
  have HKa := Lib.hid ka'
  have HKb := Lib.hid kb'
  have Hm := Lib.hid hm
  have Hih := Lib.hid ih
  have Hv := Lib.hid (eqV_b X Y)
  have H0 := Lib.hid (two_al w (.cells #[.int .i64 X.kind, .int .i64 X.num, .string ⟨X.str.toArray⟩, .slice A X.parts.length c, .slice B X.keys.length d] 25) (.cells #[.int .i64 Y.kind, .int .i64 Y.num, .string ⟨Y.str.toArray⟩, .slice A2 Y.parts.length c2, .slice B2 Y.keys.length d2] 25))
  have HA0 := Lib.hid (show HeldV w.heap.size _ _ _ _ _ ((w.alloc (.cells #[.int .i64 X.kind, .int .i64 X.num, .string ⟨X.str.toArray⟩, .slice A X.parts.length c, .slice B X.keys.length d] 25)).alloc (.cells #[.int .i64 Y.kind, .int .i64 Y.num, .string ⟨Y.str.toArray⟩, .slice A2 Y.parts.length c2, .slice B2 Y.keys.length d2] 25)) from Held.below (Held.at rfl) (one_al _ _))
  have HB0 := Lib.hid (show HeldV (w.heap.size + 1) _ _ _ _ _ ((w.alloc (.cells #[.int .i64 X.kind, .int .i64 X.num, .string ⟨X.str.toArray⟩, .slice A X.parts.length c, .slice B X.keys.length d] 25)).alloc (.cells #[.int .i64 Y.kind, .int .i64 Y.num, .string ⟨Y.str.toArray⟩, .slice A2 Y.parts.length c2, .slice B2 Y.keys.length d2] 25)) from Held.at (by simp))
  clear ha hb la' lb' ka' kb' fa fb hm ih
  obtain ⟨p0, p1, p2, p3, p4⟩ := HeldV.facts HA0.out
  obtain ⟨q0, q1, q2, q3, q4⟩ := HeldV.facts HB0.out
  go_enter Tryd.func31, Tryd.ntmps31
  cases hc0 : (X.kind != Y.kind) with
  | true =>
    have Hr := Lib.hid (show eqV X Y = false by rw [Hv.out, show (X.kind == Y.kind) = false by simpa using hc0]; rfl)
    go_wp2_with fail
    go_ret
    exact ⟨ret_bool Hr.out.symm, H0.out⟩
  | false =>
  cases hc1 : (X.num != Y.num) with
  | true =>
    have Hr := Lib.hid (show eqV X Y = false by rw [Hv.out, show (X.num == Y.num) = false by simpa using hc1]; simp)
    go_wp2_with fail
    go_ret
    exact ⟨ret_bool Hr.out.symm, H0.out⟩
  | false =>
  cases hc2 : (X.str == Y.str) with
  | false =>
    have Hr := Lib.hid (show eqV X Y = false by rw [Hv.out, show (X.str == Y.str) = false by simpa using hc2]; simp)
    go_wp2_with fail
    go_ret
    exact ⟨ret_bool Hr.out.symm, H0.out⟩
  | true =>
  cases hc3 : ((X.parts.length : Int) != (Y.parts.length : Int)) with
  | true =>
    have Hr := Lib.hid (show eqV X Y = false by rw [Hv.out, eqVs_len (by simp at hc3; omega)]; simp)
    go_wp2_with fail
    go_ret
    exact ⟨ret_bool Hr.out.symm, H0.out⟩
  | false =>
  cases hc4 : ((X.keys.length : Int) != (Y.keys.length : Int)) with
  | true =>
    have Hr := Lib.hid (show eqV X Y = false by rw [Hv.out, decide_eq_false (fun h => by simp at hc4; exact hc4 (by rw [h]))]; simp)
    go_wp2_with fail
    go_ret
    exact ⟨ret_bool Hr.out.symm, H0.out⟩
  | false =>
  have HE0 := Lib.hid (show (X.kind == Y.kind) = true by simpa using hc0)
  have HE1 := Lib.hid (show (X.num == Y.num) = true by simpa using hc1)
  have HE2 := Lib.hid (show (X.str == Y.str) = true by simpa using hc2)
  have HE3 := Lib.hid (show X.parts.length = Y.parts.length by simp at hc3; omega)
  have HE4 := Lib.hid (show X.keys.length = Y.keys.length by simp at hc4; omega)
  go_wp2_with fail
  clear p0 p1 p2 p3 p4 q0 q1 q2 q3 q4
  clear hc0 hc1 hc2 hc3 hc4
  go_loopw [5] (fun i wr => ∃ k : Nat, k ≤ X.keys.length ∧ i = .int .i64 (k : Int) ∧ Below ((w.alloc (.cells #[.int .i64 X.kind, .int .i64 X.num, .string ⟨X.str.toArray⟩, .slice A X.parts.length c, .slice B X.keys.length d] 25)).alloc (.cells #[.int .i64 Y.kind, .int .i64 Y.num, .string ⟨Y.str.toArray⟩, .slice A2 Y.parts.length c2, .slice B2 Y.keys.length d2] 25)).heap.size ((w.alloc (.cells #[.int .i64 X.kind, .int .i64 X.num, .string ⟨X.str.toArray⟩, .slice A X.parts.length c, .slice B X.keys.length d] 25)).alloc (.cells #[.int .i64 Y.kind, .int .i64 Y.num, .string ⟨Y.str.toArray⟩, .slice A2 Y.parts.length c2, .slice B2 Y.keys.length d2] 25)) wr ∧ ∀ i (h : i < X.keys.length) (h' : i < Y.keys.length), i < k → X.keys[i] = Y.keys[i]) (fun i _ => X.keys.length - (intOf i).toNat)
  case atStart => exact ⟨0, Nat.zero_le _, rfl, Below.refl _ _, fun i _ _ h => absurd h (Nat.not_lt_zero _)⟩
  case round =>
    obtain ⟨k, hk, rfl, hB, hall⟩ := hrel
    have HB := Lib.hid hB
    have Hall := Lib.hid hall
    obtain ⟨p0, p1, p2, p3, p4⟩ := HeldV.facts (Held.below HA0.out hB)
    obtain ⟨q0, q1, q2, q3, q4⟩ := HeldV.facts (Held.below HB0.out hB)
    clear hB hall
    by_cases hlt : k < X.keys.length
    · have hlA : (k : Int) < (X.keys.length : Int) := by omega
      have h00 : (0 : Int) ≤ (k : Int) := by omega
      have hlt2 : k < Y.keys.length := by have := HE4.out; omega
      have hlB : (k : Int) < (Y.keys.length : Int) := by omega
      obtain ⟨g, off, rfl, _, kc, _⟩ := (HKa.out.below (bthen H0.out HB.out)).elem k hlt
      obtain ⟨g2, off2, rfl, _, kc2, _⟩ := (HKb.out.below (bthen H0.out HB.out)).elem k hlt2
      have HNo := Lib.hid (show X.keys[k] ≠ Y.keys[k] → eqV X Y = false from fun hne => by rw [Hv.out]; have : X.keys ≠ Y.keys := fun h => hne (by simp only [h]); simp [this])
      have HMore := Lib.hid (show X.keys[k] = Y.keys[k] → ∀ i (h : i < X.keys.length) (h' : i < Y.keys.length), i < k + 1 → X.keys[i] = Y.keys[i] from fun he i h1 h2 h3 => by
        by_cases hik : i < k
        · exact Hall.out i h1 h2 hik
        · obtain rfl : i = k := by omega
          exact he)
      generalize X.keys[k] = Z1 at *
      generalize Y.keys[k] = Z2 at *
      have y3 := cell_regrown p4
      have y4 := cell_regrown q4
      have y5 := cell_regrown kc
      have y6 := cell_regrown kc2
      clear p0 p1 p2 p3 q0 q1 q2 q3 kc kc2 hlt2
      cases hz : (Z1 != Z2) with
      | true =>
        have Hn := Lib.hid (HNo.out (by simpa using hz))
        have hz2 : (Z1 == Z2) = false := by simpa using hz
        go_upto_region 6 with fail
        clear p4 q4
        refine wp_region_quiet_below (by kernel_rfl) (by kernel_rfl) ?_
        repeat (quiet_step (fail))
        refine wpQuiet_nil ?_
        intro _ hw'
        obtain ⟨⟨dq, osq⟩, hw''⟩ := hw'
        subst hw''
        go_wp2_with fail
        go_ret
        exact ⟨ret_bool Hn.out.symm, bthen H0.out (bthen HB.out (below_regrown _ dq osq))⟩
      | false =>
        have Hn := Lib.hid (HMore.out (by simpa using hz))
        have hz2 : (Z1 == Z2) = true := by simpa using hz
        go_upto_region 6 with fail
        clear p4 q4
        refine wp_region_quiet_below (by kernel_rfl) (by kernel_rfl) ?_
        repeat (quiet_step (fail))
        refine wpQuiet_nil ?_
        intro _ hw'
        obtain ⟨⟨dq, osq⟩, hw''⟩ := hw'
        subst hw''
        go_wp2_with fail
        exact ⟨⟨k + 1, by omega, by go_num, bthen HB.out (below_regrown _ dq osq), Hn.out⟩, by simp [intOf]; omega⟩
    · have hlA : ¬ (k : Int) < (X.keys.length : Int) := by omega
      have HKeq := Lib.hid (keys_all HE4.out fun i h1 h2 => Hall.out i h1 h2 (by omega))
      go_wp2_with fail
      clear p0 p1 p2 p3 p4 q0 q1 q2 q3 q4 hlt hlA hk Hall
      go_loopw [6] (fun i wz => ∃ k : Nat, k ≤ X.parts.length ∧ i = .int .i64 (k : Int) ∧ Below ((w.alloc (.cells #[.int .i64 X.kind, .int .i64 X.num, .string ⟨X.str.toArray⟩, .slice A X.parts.length c, .slice B X.keys.length d] 25)).alloc (.cells #[.int .i64 Y.kind, .int .i64 Y.num, .string ⟨Y.str.toArray⟩, .slice A2 Y.parts.length c2, .slice B2 Y.keys.length d2] 25)).heap.size ((w.alloc (.cells #[.int .i64 X.kind, .int .i64 X.num, .string ⟨X.str.toArray⟩, .slice A X.parts.length c, .slice B X.keys.length d] 25)).alloc (.cells #[.int .i64 Y.kind, .int .i64 Y.num, .string ⟨Y.str.toArray⟩, .slice A2 Y.parts.length c2, .slice B2 Y.keys.length d2] 25)) wz ∧ ∀ i (h : i < X.parts.length) (h' : i < Y.parts.length), i < k → eqV X.parts[i] Y.parts[i] = true) (fun i _ => X.parts.length - (intOf i).toNat)
      case atStart => exact ⟨0, Nat.zero_le _, rfl, HB.out, fun i _ _ h => absurd h (Nat.not_lt_zero _)⟩
      case round =>
        obtain ⟨k, hk, rfl, hB, hall⟩ := hrel
        have HC := Lib.hid hB
        have Hall := Lib.hid hall
        obtain ⟨p0, p1, p2, p3, p4⟩ := HeldV.facts (Held.below HA0.out hB)
        obtain ⟨q0, q1, q2, q3, q4⟩ := HeldV.facts (Held.below HB0.out hB)
        clear hB hall
        by_cases hlt : k < X.parts.length
        · have hlA : (k : Int) < (X.parts.length : Int) := by omega
          have h00 : (0 : Int) ≤ (k : Int) := by omega
          have hlt2 : k < Y.parts.length := by have := HE3.out; omega
          have hlB : (k : Int) < (Y.parts.length : Int) := by omega
          have hY := Hih.out (SizeOf.sizeOf X.parts[k]) (Nat.lt_of_lt_of_le (V.sz_part hlt) Hm.out) X.parts[k] Y.parts[k]
          obtain ⟨g, off, Aa, ca, Ba, da, rfl, _, ra, a0, a1, a2, a3, a4⟩ := (HLa.out.below (bthen H0.out HC.out)).elem k hlt
          obtain ⟨g2, off2, Ab, cb, Bb, db, rfl, _, rb, b0, b1, b2, b3, b4⟩ := (HLb.out.below (bthen H0.out HC.out)).elem k hlt2
          have HNo := Lib.hid (show eqV X.parts[k] Y.parts[k] = false → eqV X Y = false from fun hf => by rw [Hv.out, eqVs_no HE3.out hlt hlt2 hf]; simp)
          have HMore := Lib.hid (fun ht => eqVs_more Hall.out hlt hlt2 ht)
          generalize X.parts[k] = Z1 at *
          generalize Y.parts[k] = Z2 at *
          have cA := fun (d1 : Nat) (os : Array Obj) => Calls.regrown_of (hY (valV Z1 Aa ca Ba da) (valV Z2 Ab cb Bb db) oka okb (grow (redrawn wr d1) os) (ra.below (below_regrown _ d1 os)) (rb.below (below_regrown _ d1 os)) (Nat.le_refl _))
          have y3 := cell_regrown p3
          have y4 := cell_regrown q3
          have ya0 := cell_regrown a0
          have ya1 := cell_regrown a1
          have ya2 := cell_regrown a2
          have ya3 := cell_regrown a3
          have ya4 := cell_regrown a4
          have yb0 := cell_regrown b0
          have yb1 := cell_regrown b1
          have yb2 := cell_regrown b2
          have yb3 := cell_regrown b3
          have yb4 := cell_regrown b4
          clear hY ra rb hlt2
          go_upto_region 11 with fail
          clear p0 p1 p2 p3 p4 q0 q1 q2 q3 q4 a0 a1 a2 a3 a4 b0 b1 b2 b3 b4
          refine wp_region_quiet_below (by kernel_rfl) (by kernel_rfl) ?_
          repeat (quiet_step (with_reducible exact cA _ _))
          refine wpQuiet_nil ?_
          intro _ hw'
          obtain ⟨⟨dq, osq⟩, hw''⟩ := hw'
          subst hw''
          clear cA ya0 ya1 ya2 ya3 ya4 yb0 yb1 yb2 yb3 yb4
          cases hz : eqV Z1 Z2 with
          | false =>
            have Hn := Lib.hid (HNo.out hz)
            clear hz
            go_wp2_with fail
            go_ret
            exact ⟨ret_bool Hn.out.symm, bthen H0.out (bthen HC.out (below_regrown _ dq osq))⟩
          | true =>
            have Hn := Lib.hid (HMore.out hz)
            clear hz
            go_wp2_with fail
            exact ⟨⟨k + 1, by omega, by go_num, bthen HC.out (below_regrown _ dq osq), Hn.out⟩, by simp [intOf]; omega⟩
        · have hlA : ¬ (k : Int) < (X.parts.length : Int) := by omega
          have Hy := Lib.hid (eqV_all HE0.out HE1.out HE2.out HKeq.out ((eqVs_at HE3.out).2 fun i h1 h2 => Hall.out i h1 h2 (by omega)))
          go_wp2_with fail
          go_ret
          exact ⟨ret_bool Hy.out.symm, bthen H0.out HC.out⟩
set_option maxRecDepth 20000 in
set_option maxHeartbeats 4000000 in
theorem ref_alike (m : Nat) : ∀ (X Y : N) (va vb : Value) (oka okb : Nat → Prop) (w : World) (ha : RdN oka w va X) (hb : RdN okb w vb Y) (hm : SizeOf.sizeOf X ≤ m),
    Calls Tryd.prog 16 #[va, vb] w fun e w' => e = .returned (.bool (eqN X Y)) ∧ Below w.heap.size w w' := by
  induction m using Nat.strongRecOn with
  | _ m ih =>
  intro X Y va vb oka okb w ha hb hm
  obtain ⟨A, c, B, d, K, e, rfl, hna⟩ := ha.form
  obtain ⟨A2, c2, B2, d2, K2, e2, rfl, hnb⟩ := hb.form
  have h5 := hna.len
  have i5 := hnb.len
  have HLa := Lib.hid hna.kids
  have HLb := Lib.hid hnb.kids
  have Hm := Lib.hid hm
  have Hih := Lib.hid ih
  have Hv := Lib.hid (eqN_b X Y)
  have HS := Lib.hid (fun (W : World) (hw : Below w.heap.size w W) => ref_sameValue (SizeOf.sizeOf X.val) X.val Y.val (valV X.val A c B d) (valV Y.val A2 c2 B2 d2) oka okb W (hna.val.below hw) (hnb.val.below hw) (Nat.le_refl _))
  have H0 := Lib.hid (two_al w (boxN X A c B d K e) (boxN Y A2 c2 B2 d2 K2 e2))
  have HA0 := Lib.hid (show HeldN w.heap.size _ _ _ _ _ _ _ _ _ _ ((w.alloc (boxN X A c B d K e)).alloc (boxN Y A2 c2 B2 d2 K2 e2)) from Held.below (Held.at rfl) (one_al _ _))
  have HB0 := Lib.hid (show HeldN (w.heap.size + 1) _ _ _ _ _ _ _ _ _ _ ((w.alloc (boxN X A c B d K e)).alloc (boxN Y A2 c2 B2 d2 K2 e2)) from Held.at (by simp))
  clear ha hb hna hnb hm ih
  obtain ⟨p0, p1, p2, p3, p4, p5, p6, p7, p8, p9⟩ := HeldN.facts HA0.out
  obtain ⟨q0, q1, q2, q3, q4, q5, q6, q7, q8, q9⟩ := HeldN.facts HB0.out
  go_enter Tryd.func16, Tryd.ntmps16
  go_wp2_with fail
  refine (HS.out _ H0.out).mono ?_
  rintro e1 w1 ⟨rfl, hb⟩
  clear p0 p1 p2 p3 p4 p5 p6 p7 p8 p9 q0 q1 q2 q3 q4 q5 q6 q7 q8 q9
  have HA1 := Lib.hid (Held.below HA0.out hb)
  have HB1 := Lib.hid (Held.below HB0.out hb)
  have HS1 := Lib.hid (bthen H0.out hb)
  clear hb
  obtain ⟨p0, p1, p2, p3, p4, p5, p6, p7, p8, p9⟩ := HeldN.facts HA1.out
  obtain ⟨q0, q1, q2, q3, q4, q5, q6, q7, q8, q9⟩ := HeldN.facts HB1.out
  cases hv : eqV X.val Y.val with
  | false =>
    have Hr := Lib.hid (show eqN X Y = false by rw [Hv.out, hv]; simp)
    clear hv
    go_wp2_with fail
    go_ret
    exact ⟨ret_bool Hr.out.symm, HS1.out⟩
  | true =>
  have HVv := Lib.hid hv
  clear hv
  cases hc0 : (X.kind != Y.kind) with
  | true =>
    have Hr := Lib.hid (show eqN X Y = false by rw [Hv.out, show (X.kind == Y.kind) = false by simpa using hc0]; rfl)
    go_wp2_with fail
    go_ret
    exact ⟨ret_bool Hr.out.symm, HS1.out⟩
  | false =>
  cases hc1 : (X.text == Y.text) with
  | false =>
    have Hr := Lib.hid (show eqN X Y = false by rw [Hv.out, show (X.text == Y.text) = false by simpa using hc1]; simp)
    go_wp2_with fail
    go_ret
    exact ⟨ret_bool Hr.out.symm, HS1.out⟩
  | true =>
  cases hc2 : (X.flag == Y.flag) with
  | false =>
    have Hr := Lib.hid (show eqN X Y = false by rw [Hv.out, show (X.flag == Y.flag) = false by simpa using hc2]; simp)
    go_wp2_with fail
    go_ret
    exact ⟨ret_bool Hr.out.symm, HS1.out⟩
  | true =>
  cases hc3 : ((X.kids.length : Int) != (Y.kids.length : Int)) with
  | true =>
    have Hr := Lib.hid (show eqN X Y = false by rw [Hv.out, eqNs_len (by simp at hc3; omega)]; simp)
    go_wp2_with fail
    go_ret
    exact ⟨ret_bool Hr.out.symm, HS1.out⟩
  | false =>
  have HE0 := Lib.hid (show (X.kind == Y.kind) = true by simpa using hc0)
  have HE1 := Lib.hid (show (X.text == Y.text) = true by simpa using hc1)
  have HE2 := Lib.hid (show (X.flag == Y.flag) = true by simpa using hc2)
  have HE3 := Lib.hid (show X.kids.length = Y.kids.length by simp at hc3; omega)
  go_wp2_with fail
  clear p0 p1 p2 p3 p4 p5 p6 p7 p8 p9 q0 q1 q2 q3 q4 q5 q6 q7 q8 q9
  clear hc0 hc1 hc2 hc3
  go_loopw [5, 6] (fun ok i wz => ∃ k : Nat, k ≤ X.kids.length ∧ i = .int .i64 (k : Int) ∧ Below w1.heap.size w1 wz ∧ ∀ i (h : i < X.kids.length) (h' : i < Y.kids.length), i < k → eqN X.kids[i] Y.kids[i] = true) (fun _ i _ => X.kids.length - (intOf i).toNat)
  case atStart => exact ⟨0, Nat.zero_le _, rfl, Below.refl _ _, fun i _ _ h => absurd h (Nat.not_lt_zero _)⟩
  case round =>
    obtain ⟨k, hk, rfl, hB, hall⟩ := hrel
    have HC := Lib.hid hB
    have Hall := Lib.hid hall
    obtain ⟨p0, p1, p2, p3, p4, p5, p6, p7, p8, p9⟩ := HeldN.facts (Held.below HA1.out hB)
    obtain ⟨q0, q1, q2, q3, q4, q5, q6, q7, q8, q9⟩ := HeldN.facts (Held.below HB1.out hB)
    clear hB hall
    by_cases hlt : k < X.kids.length
    · have hlA : (k : Int) < (X.kids.length : Int) := by omega
      have h00 : (0 : Int) ≤ (k : Int) := by omega
      have hlt2 : k < Y.kids.length := by have := HE3.out; omega
      have hlB : (k : Int) < (Y.kids.length : Int) := by omega
      have hY := Hih.out (SizeOf.sizeOf X.kids[k]) (Nat.lt_of_lt_of_le (N.sz_kid hlt) Hm.out) X.kids[k] Y.kids[k]
      obtain ⟨g, off, Aa, ca, Ba, da, Ka, ea, rfl, _, ra, a0, a1, a2, a3, a4, a5, a6, a7, a8, a9⟩ := (HLa.out.below (bthen HS1.out HC.out)).elem k hlt
      obtain ⟨g2, off2, Ab, cb, Bb, db, Kb, eb, rfl, _, rb, b0, b1, b2, b3, b4, b5, b6, b7, b8, b9⟩ := (HLb.out.below (bthen HS1.out HC.out)).elem k hlt2
      have HNo := Lib.hid (show eqN X.kids[k] Y.kids[k] = false → eqN X Y = false from fun hf => by rw [Hv.out, eqNs_no HE3.out hlt hlt2 hf]; simp)
      have HMore := Lib.hid (fun ht => eqNs_more Hall.out hlt hlt2 ht)
      generalize X.kids[k] = Z1 at *
      generalize Y.kids[k] = Z2 at *
      have cA := fun (d1 : Nat) (os : Array Obj) => Calls.regrown_of (hY (valN Z1 Aa ca Ba da Ka ea) (valN Z2 Ab cb Bb db Kb eb) oka okb (grow (redrawn wr d1) os) (ra.rd.below (below_regrown _ d1 os)) (rb.rd.below (below_regrown _ d1 os)) (Nat.le_refl _))
      have y3 := cell_regrown p8
      have y4 := cell_regrown q8
      have ya0 := cell_regrown a0
      have yb0 := cell_regrown b0
      have ya1 := cell_regrown a1
      have yb1 := cell_regrown b1
      have ya2 := cell_regrown a2
      have yb2 := cell_regrown b2
      have ya3 := cell_regrown a3
      have yb3 := cell_regrown b3
      have ya4 := cell_regrown a4
      have yb4 := cell_regrown b4
      have ya5 := cell_regrown a5
      have yb5 := cell_regrown b5
      have ya6 := cell_regrown a6
      have yb6 := cell_regrown b6
      have ya7 := cell_regrown a7
      have yb7 := cell_regrown b7
      have ya8 := cell_regrown a8
      have yb8 := cell_regrown b8
      have ya9 := cell_regrown a9
      have yb9 := cell_regrown b9
      clear hY ra rb hlt2
      go_upto_region 7 with fail
      clear p0 p1 p2 p3 p4 p5 p6 p7 p8 p9 q0 q1 q2 q3 q4 q5 q6 q7 q8 q9 a0 a1 a2 a3 a4 a5 a6 a7 a8 a9 b0 b1 b2 b3 b4 b5 b6 b7 b8 b9
      refine wp_region_quiet_below (by kernel_rfl) (by kernel_rfl) ?_
      repeat (quiet_step (with_reducible exact cA _ _))
      refine wpQuiet_nil ?_
      intro _ hw'
      obtain ⟨⟨dq, osq⟩, hw''⟩ := hw'
      subst hw''
      clear cA ya0 yb0 ya1 yb1 ya2 yb2 ya3 yb3 ya4 yb4 ya5 yb5 ya6 yb6 ya7 yb7 ya8 yb8 ya9 yb9
      cases hz : eqN Z1 Z2 with
      | false =>
        have Hn := Lib.hid (HNo.out hz)
        clear hz
        go_wp2_with fail
        go_ret
        exact ⟨ret_bool Hn.out.symm, bthen HS1.out (bthen HC.out (below_regrown _ dq osq))⟩
      | true =>
        have Hn := Lib.hid (HMore.out hz)
        clear hz
        go_wp2_with fail
        exact ⟨⟨k + 1, by omega, by go_num, bthen HC.out (below_regrown _ dq osq), Hn.out⟩, by simp [intOf]; omega⟩
    · have hlA : ¬ (k : Int) < (X.kids.length : Int) := by omega
      have Hy := Lib.hid (show eqN X Y = true by rw [Hv.out, HE0.out, HE1.out, HE2.out, HVv.out, (eqNs_at HE3.out).2 fun i h1 h2 => Hall.out i h1 h2 (by omega)]; rfl)
      go_wp2_with fail
      go_ret
      exact ⟨ret_bool Hy.out.symm, bthen HS1.out HC.out⟩
end Go.Proofs.YthlfeiiolafonaaDoor
