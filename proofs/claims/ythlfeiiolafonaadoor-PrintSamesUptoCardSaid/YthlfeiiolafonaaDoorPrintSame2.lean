/- Contracts of print.sameValue, alike, Same: their own walks. -/
import Derived.Test.YthlfeiiolafonaaDoorPrintSame
set_option linter.unusedVariables false
set_option linter.unusedSimpArgs false
namespace Go.Proofs.YthlfeiiolafonaaDoor
open Go.RowKit Go.IntWalk Go.Sort

theorem eqV_b (X Y : V) : eqV X Y = ((X.kind == Y.kind) && ((X.num == Y.num) && ((X.str == Y.str) && (decide (X.keys = Y.keys) && eqVs X.parts Y.parts)))) := by
  cases X; cases Y
  rw [eqV]
  simp only [V.kind, V.num, V.str, V.keys, V.parts, Bool.beq_eq_decide_eq]
  rfl
theorem eqN_b (X Y : N) : eqN X Y = ((X.kind == Y.kind) && ((X.text == Y.text) && ((X.flag == Y.flag) && (eqV X.val Y.val && eqNs X.kids Y.kids)))) := by
  cases X; cases Y
  rw [eqN]
  simp only [N.kind, N.text, N.val, N.flag, N.kids, Bool.beq_eq_decide_eq]
  try rfl
set_option maxRecDepth 20000 in
set_option maxHeartbeats 4000000 in
theorem print_sameValue (m : Nat) : ∀ (X Y : V) (va vb : Value) (oka okb : Nat → Prop) (w : World) (ha : RdV oka w va X) (hb : RdV okb w vb Y) (hm : SizeOf.sizeOf X ≤ m),
    Calls Tryd.prog 28 #[va, vb] w fun e w' => e = .returned (.bool (eqV X Y)) ∧ Below w.heap.size w w' := by
  induction m using Nat.strongRecOn with
  | _ m ih =>
  intro X Y va vb oka okb w ha hb hm
  obtain ⟨_, _, _, la, ka, hva, fa, la', ka'⟩ := ha.open
  obtain ⟨_, _, _, lb, kb, hvb, fb, lb', kb'⟩ := hb.open
  obtain ⟨A, c, B, d, rfl, h1, h2, h3, h4, h5, h6, h7⟩ := ha.form
  obtain ⟨A2, c2, B2, d2, rfl, i1, i2, i3, i4, i5, i6, i7⟩ := hb.form
  injection hva with hva
  simp only [Array.mk.injEq, List.cons.injEq, and_true, true_and] at hva
  obtain ⟨rfl, rfl⟩ := hva
  injection hvb with hvb
  simp only [Array.mk.injEq, List.cons.injEq, and_true, true_and] at hvb
  obtain ⟨rfl, rfl⟩ := hvb
  have HLa := Lib.hid la'
  have HLb := Lib.hid lb'
  have HK := Lib.hid (fun (W : World) (hw : Below w.heap.size w W) => keys_Equal X.keys Y.keys B B2 d d2 oka okb W (ka'.below hw) (kb'.below hw) h6 i6)
  have HE := Lib.hid (show EqFnV X.parts from fun i hi Y' va vb oka okb W h1 h2 => ih (SizeOf.sizeOf X.parts[i]) (Nat.lt_of_lt_of_le (V.sz_part hi) hm) X.parts[i] Y' va vb oka okb W h1 h2 (Nat.le_refl _))
  have Hv := Lib.hid (eqV_b X Y)
  have H0 := Lib.hid (two_al w (.cells #[.int .i64 X.kind, .int .i64 X.num, .string ⟨X.str.toArray⟩, .slice A X.parts.length c, .slice B X.keys.length d] 25) (.cells #[.int .i64 Y.kind, .int .i64 Y.num, .string ⟨Y.str.toArray⟩, .slice A2 Y.parts.length c2, .slice B2 Y.keys.length d2] 25))
  have HA0 := Lib.hid (show HeldV w.heap.size _ _ _ _ _ ((w.alloc (.cells #[.int .i64 X.kind, .int .i64 X.num, .string ⟨X.str.toArray⟩, .slice A X.parts.length c, .slice B X.keys.length d] 25)).alloc (.cells #[.int .i64 Y.kind, .int .i64 Y.num, .string ⟨Y.str.toArray⟩, .slice A2 Y.parts.length c2, .slice B2 Y.keys.length d2] 25)) from Held.below (Held.at rfl) (one_al _ _))
  have HB0 := Lib.hid (show HeldV (w.heap.size + 1) _ _ _ _ _ ((w.alloc (.cells #[.int .i64 X.kind, .int .i64 X.num, .string ⟨X.str.toArray⟩, .slice A X.parts.length c, .slice B X.keys.length d] 25)).alloc (.cells #[.int .i64 Y.kind, .int .i64 Y.num, .string ⟨Y.str.toArray⟩, .slice A2 Y.parts.length c2, .slice B2 Y.keys.length d2] 25)) from Held.at (by simp))
  clear ha hb ih hm la' lb' ka' kb' fa fb
  obtain ⟨p0, p1, p2, p3, p4⟩ := HeldV.facts HA0.out
  obtain ⟨q0, q1, q2, q3, q4⟩ := HeldV.facts HB0.out
  go_enter Tryd.func28, Tryd.ntmps28
  cases hc0 : (X.kind == Y.kind) with
  | false =>
    have Hr := Lib.hid (show eqV X Y = false by rw [Hv.out, hc0]; rfl)
    go_wp2_with fail
    go_ret
    exact ⟨ret_bool Hr.out.symm, H0.out⟩
  | true =>
  cases hc1 : (X.num == Y.num) with
  | false =>
    have Hr := Lib.hid (show eqV X Y = false by rw [Hv.out, hc0, Bool.true_and, hc1]; rfl)
    go_wp2_with fail
    go_ret
    exact ⟨ret_bool Hr.out.symm, H0.out⟩
  | true =>
  cases hc2 : (X.str == Y.str) with
  | false =>
    have Hr := Lib.hid (show eqV X Y = false by rw [Hv.out, hc0, Bool.true_and, hc1, Bool.true_and, hc2]; rfl)
    go_wp2_with fail
    go_ret
    exact ⟨ret_bool Hr.out.symm, H0.out⟩
  | true =>
  have Hr := Lib.hid (show eqV X Y = (decide (X.keys = Y.keys) && eqVs X.parts Y.parts) by rw [Hv.out, hc0, Bool.true_and, hc1, Bool.true_and, hc2, Bool.true_and])
  go_wp2_with fail
  refine (HK.out _ H0.out).mono ?_
  rintro e1 w1 ⟨rfl, hb⟩
  clear p0 p1 p2 p3 p4 q0 q1 q2 q3 q4
  obtain ⟨p0, p1, p2, p3, p4⟩ := HeldV.facts (Held.below HA0.out hb)
  obtain ⟨q0, q1, q2, q3, q4⟩ := HeldV.facts (Held.below HB0.out hb)
  have HB := Lib.hid (bthen H0.out hb)
  clear hb
  cases hk : decide (X.keys = Y.keys) with
  | false =>
    have Hq := Lib.hid (show eqV X Y = false by rw [Hr.out, hk, Bool.false_and])
    clear hk
    go_wp2_with fail
    go_ret
    exact ⟨ret_bool Hq.out.symm, HB.out⟩
  | true =>
    have Hq := Lib.hid (show eqV X Y = eqVs X.parts Y.parts by rw [Hr.out, hk, Bool.true_and])
    clear hk
    go_wp2_with fail
    refine (equalFunc_V X.parts Y.parts HE.out A A2 c c2 oka okb _ (HLa.out.below HB.out) (HLb.out.below HB.out) h5 i5).mono ?_
    rintro e2 w2 ⟨rfl, hb⟩
    have HB2 := Lib.hid (bthen HB.out hb)
    clear hb
    go_wp2_with fail
    go_ret
    exact ⟨ret_bool Hq.out.symm, HB2.out⟩
set_option maxRecDepth 20000 in
set_option maxHeartbeats 4000000 in
theorem print_alike (m : Nat) : ∀ (X Y : N) (va vb : Value) (oka okb : Nat → Prop) (w : World) (ha : RdN oka w va X) (hb : RdN okb w vb Y) (hm : SizeOf.sizeOf X ≤ m),
    Calls Tryd.prog 14 #[va, vb] w fun e w' => e = .returned (.bool (eqN X Y)) ∧ Below w.heap.size w w' := by
  induction m using Nat.strongRecOn with
  | _ m ih =>
  intro X Y va vb oka okb w ha hb hm
  obtain ⟨A, c, B, d, K, e, rfl, hna⟩ := ha.form
  obtain ⟨A2, c2, B2, d2, K2, e2, rfl, hnb⟩ := hb.form
  have h5 := hna.len
  have i5 := hnb.len
  have HLa := Lib.hid hna.kids
  have HLb := Lib.hid hnb.kids
  have HK := Lib.hid (fun (W : World) (hw : Below w.heap.size w W) => print_sameValue (SizeOf.sizeOf X.val) X.val Y.val (valV X.val A c B d) (valV Y.val A2 c2 B2 d2) oka okb W (hna.val.below hw) (hnb.val.below hw) (Nat.le_refl _))
  have HE := Lib.hid (show EqFnN X.kids from fun i hi Y' va vb oka okb W h1 h2 => ih (SizeOf.sizeOf X.kids[i]) (Nat.lt_of_lt_of_le (N.sz_kid hi) hm) X.kids[i] Y' va vb oka okb W h1 h2 (Nat.le_refl _))
  have Hv := Lib.hid (eqN_b X Y)
  have H0 := Lib.hid (two_al w (boxN X A c B d K e) (boxN Y A2 c2 B2 d2 K2 e2))
  have HA0 := Lib.hid (show HeldN w.heap.size _ _ _ _ _ _ _ _ _ _ ((w.alloc (boxN X A c B d K e)).alloc (boxN Y A2 c2 B2 d2 K2 e2)) from Held.below (Held.at rfl) (one_al _ _))
  have HB0 := Lib.hid (show HeldN (w.heap.size + 1) _ _ _ _ _ _ _ _ _ _ ((w.alloc (boxN X A c B d K e)).alloc (boxN Y A2 c2 B2 d2 K2 e2)) from Held.at (by simp))
  clear ha hb ih hm hna hnb
  obtain ⟨p0, p1, p2, p3, p4, p5, p6, p7, p8, p9⟩ := HeldN.facts HA0.out
  obtain ⟨q0, q1, q2, q3, q4, q5, q6, q7, q8, q9⟩ := HeldN.facts HB0.out
  go_enter Tryd.func14, Tryd.ntmps14
  cases hc0 : (X.kind == Y.kind) with
  | false =>
    have Hr := Lib.hid (show eqN X Y = false by rw [Hv.out, hc0]; rfl)
    go_wp2_with fail
    go_ret
    exact ⟨ret_bool Hr.out.symm, H0.out⟩
  | true =>
  cases hc1 : (X.text == Y.text) with
  | false =>
    have Hr := Lib.hid (show eqN X Y = false by rw [Hv.out, hc0, Bool.true_and, hc1]; rfl)
    go_wp2_with fail
    go_ret
    exact ⟨ret_bool Hr.out.symm, H0.out⟩
  | true =>
  cases hc2 : (X.flag == Y.flag) with
  | false =>
    have Hr := Lib.hid (show eqN X Y = false by rw [Hv.out, hc0, Bool.true_and, hc1, Bool.true_and, hc2]; rfl)
    go_wp2_with fail
    go_ret
    exact ⟨ret_bool Hr.out.symm, H0.out⟩
  | true =>
  have Hr := Lib.hid (show eqN X Y = (eqV X.val Y.val && eqNs X.kids Y.kids) by rw [Hv.out, hc0, Bool.true_and, hc1, Bool.true_and, hc2, Bool.true_and])
  go_wp2_with fail
  refine (HK.out _ H0.out).mono ?_
  rintro e1 w1 ⟨rfl, hb⟩
  clear p0 p1 p2 p3 p4 p5 p6 p7 p8 p9 q0 q1 q2 q3 q4 q5 q6 q7 q8 q9
  obtain ⟨p0, p1, p2, p3, p4, p5, p6, p7, p8, p9⟩ := HeldN.facts (Held.below HA0.out hb)
  obtain ⟨q0, q1, q2, q3, q4, q5, q6, q7, q8, q9⟩ := HeldN.facts (Held.below HB0.out hb)
  have HB := Lib.hid (bthen H0.out hb)
  clear hb
  cases hk : eqV X.val Y.val with
  | false =>
    have Hq := Lib.hid (show eqN X Y = false by rw [Hr.out, hk, Bool.false_and])
    clear hk
    go_wp2_with fail
    go_ret
    exact ⟨ret_bool Hq.out.symm, HB.out⟩
  | true =>
    have Hq := Lib.hid (show eqN X Y = eqNs X.kids Y.kids by rw [Hr.out, hk, Bool.true_and])
    clear hk
    go_wp2_with fail
    refine (equalFunc_N X.kids Y.kids HE.out K K2 e e2 oka okb _ (HLa.out.below HB.out) (HLb.out.below HB.out) h5 i5).mono ?_
    rintro e2 w2 ⟨rfl, hb⟩
    have HB2 := Lib.hid (bthen HB.out hb)
    clear hb
    go_wp2_with fail
    go_ret
    exact ⟨ret_bool Hq.out.symm, HB2.out⟩
set_option maxRecDepth 20000 in
set_option maxHeartbeats 4000000 in
theorem print_Same (X Y : N) (va vb : Value) (oka okb : Nat → Prop) (w : World) (ha : RdN oka w va X) (hb : RdN okb w vb Y) :
    Calls Tryd.prog 6 #[va, vb] w fun e w' => e = .returned (.bool (sameN X Y)) ∧ Below w.heap.size w w' := by
  obtain ⟨A, c, B, d, K, e, rfl, hna⟩ := ha.form
  obtain ⟨A2, c2, B2, d2, K2, e2, rfl, hnb⟩ := hb.form
  have HRa := Lib.hid ha
  have HRb := Lib.hid hb
  have H0 := Lib.hid (two_al w (boxN X A c B d K e) (boxN Y A2 c2 B2 d2 K2 e2))
  have HA0 := Lib.hid (show HeldN w.heap.size _ _ _ _ _ _ _ _ _ _ ((w.alloc (boxN X A c B d K e)).alloc (boxN Y A2 c2 B2 d2 K2 e2)) from Held.below (Held.at rfl) (one_al _ _))
  have HB0 := Lib.hid (show HeldN (w.heap.size + 1) _ _ _ _ _ _ _ _ _ _ ((w.alloc (boxN X A c B d K e)).alloc (boxN Y A2 c2 B2 d2 K2 e2)) from Held.at (by simp))
  have Hs := Lib.hid (show sameN X Y = (fitsN X && (fitsN Y && eqN X Y)) from rfl)
  clear ha hb hna hnb
  obtain ⟨p0, p1, p2, p3, p4, p5, p6, p7, p8, p9⟩ := HeldN.facts HA0.out
  obtain ⟨q0, q1, q2, q3, q4, q5, q6, q7, q8, q9⟩ := HeldN.facts HB0.out
  go_enter Tryd.func6, Tryd.ntmps6
  go_wp2_with fail
  refine (print_fits X (valN X A c B d K e) oka _ (HRa.out.below H0.out)).mono ?_
  rintro e1 w1 ⟨rfl, hb⟩
  clear p0 p1 p2 p3 p4 p5 p6 p7 p8 p9 q0 q1 q2 q3 q4 q5 q6 q7 q8 q9
  have HA1 := Lib.hid (Held.below HA0.out hb)
  have HB1 := Lib.hid (Held.below HB0.out hb)
  have HB := Lib.hid (bthen H0.out hb)
  clear hb
  obtain ⟨p0, p1, p2, p3, p4, p5, p6, p7, p8, p9⟩ := HeldN.facts HA1.out
  obtain ⟨q0, q1, q2, q3, q4, q5, q6, q7, q8, q9⟩ := HeldN.facts HB1.out
  cases h1 : decide (nsize X ≤ 20000) with
  | false =>
    have Hq := Lib.hid (show sameN X Y = false by rw [Hs.out]; unfold fitsN; rw [h1, Bool.false_and])
    clear h1
    go_wp2_with fail
    go_ret
    exact ⟨ret_bool Hq.out.symm, HB.out⟩
  | true =>
    have Hs1 := Lib.hid (show sameN X Y = (fitsN Y && eqN X Y) by rw [Hs.out, show fitsN X = true from h1, Bool.true_and])
    clear h1
    go_wp2_with fail
    refine (print_fits Y (valN Y A2 c2 B2 d2 K2 e2) okb _ (HRb.out.below HB.out)).mono ?_
    rintro e1 w2 ⟨rfl, hb⟩
    clear p0 p1 p2 p3 p4 p5 p6 p7 p8 p9 q0 q1 q2 q3 q4 q5 q6 q7 q8 q9
    have HA2 := Lib.hid (Held.below HA1.out hb)
    have HB2 := Lib.hid (Held.below HB1.out hb)
    have HC := Lib.hid (bthen HB.out hb)
    clear hb
    obtain ⟨p0, p1, p2, p3, p4, p5, p6, p7, p8, p9⟩ := HeldN.facts HA2.out
    obtain ⟨q0, q1, q2, q3, q4, q5, q6, q7, q8, q9⟩ := HeldN.facts HB2.out
    cases h1 : decide (nsize Y ≤ 20000) with
    | false =>
      have Hq := Lib.hid (show sameN X Y = false by rw [Hs1.out]; unfold fitsN; rw [h1, Bool.false_and])
      clear h1
      go_wp2_with fail
      go_ret
      exact ⟨ret_bool Hq.out.symm, HC.out⟩
    | true =>
      have Hq := Lib.hid (show sameN X Y = eqN X Y by rw [Hs1.out]; unfold fitsN; rw [h1, Bool.true_and])
      clear h1
      go_wp2_with fail
      refine (print_alike (SizeOf.sizeOf X) X Y (valN X A c B d K e) (valN Y A2 c2 B2 d2 K2 e2) oka okb _ (HRa.out.below HC.out) (HRb.out.below HC.out) (Nat.le_refl _)).mono ?_
      rintro e1 w3 ⟨rfl, hb⟩
      have HD := Lib.hid (bthen HC.out hb)
      clear hb
      go_wp2_with fail
      go_ret
      exact ⟨ret_bool Hq.out.symm, HD.out⟩
end Go.Proofs.YthlfeiiolafonaaDoor
