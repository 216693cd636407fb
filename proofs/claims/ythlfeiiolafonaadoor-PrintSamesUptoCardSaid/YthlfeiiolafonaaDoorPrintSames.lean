/- The walk of PrintSames: the reference's Same, the law. -/
import Derived.Test.YthlfeiiolafonaaDoorSameRef
import Derived.Test.YthlfeiiolafonaaDoorTreeB
import Derived.Test.YthlfeiiolafonaaDoorLawShown
set_option linter.unusedVariables false
set_option linter.unusedSimpArgs false
namespace Go.Proofs.YthlfeiiolafonaaDoor
open Go.RowKit Go.IntWalk Go.Sort

set_option maxRecDepth 20000 in
set_option maxHeartbeats 4000000 in
theorem ref_Same (X Y : N) (va vb : Value) (oka okb : Nat → Prop) (w : World) (ha : RdN oka w va X) (hb : RdN okb w vb Y) :
    Calls Tryd.prog 7 #[va, vb] w fun e w' => e = .returned (.bool (sameN X Y)) ∧ Below w.heap.size w w' := by
  obtain ⟨A, c, B, d, K, e, rfl, hna⟩ := ha.form
  obtain ⟨A2, c2, B2, d2, K2, e2, rfl, hnb⟩ := hb.form
  have HRa := Lib.hid ha
  have HRb := Lib.hid hb
  have H0 := Lib.hid (two_al w (boxN X A c B d K e) (boxN Y A2 c2 B2 d2 K2 e2))
  have HA0 := Lib.hid (show HeldN w.heap.size _ _ _ _ _ _ _ _ _ _ ((w.alloc (boxN X A c B d K e)).alloc (boxN Y A2 c2 B2 d2 K2 e2)) from Held.below (Held.at rfl) (one_al _ _))
  have HB0 := Lib.hid (show HeldN (w.heap.size + 1) _ _ _ _ _ _ _ _ _ _ ((w.alloc (boxN X A c B d K e)).alloc (boxN Y A2 c2 B2 d2 K2 e2)) from Held.at (by simp))
  have Hs := Lib.hid (show sameN X Y = (fitsN X && (fitsN Y && eqN X Y)) from rfl)
  clear ha hb hna hnb
  obtain ⟨p0, p1, p2, p3, p4, p5, p6, p7, p8, p9⟩ := HeldN.facts HA0.out
  obtain ⟨q0, q1, q2, q3, q4, q5, q6, q7, q8, q9⟩ := HeldN.facts HB0.out
  go_enter Tryd.func7, Tryd.ntmps7
  go_wp2_with fail
  refine (ref_fits X (valN X A c B d K e) oka _ (HRa.out.below H0.out)).mono ?_
  rintro e1 w1 ⟨rfl, hb⟩
  clear p0 p1 p2 p3 p4 p5 p6 p7 p8 p9 q0 q1 q2 q3 q4 q5 q6 q7 q8 q9
  have HA1 := Lib.hid (Held.below HA0.out hb)
  have HB1 := Lib.hid (Held.below HB0.out hb)
  have HB := Lib.hid (bthen H0.out hb)
  clear hb
  obtain ⟨p0, p1, p2, p3, p4, p5, p6, p7, p8, p9⟩ := HeldN.facts HA1.out
  obtain ⟨q0, q1, q2, q3, q4, q5, q6, q7, q8, q9⟩ := HeldN.facts HB1.out
  go_wp2_with fail
  refine (ref_fits Y (valN Y A2 c2 B2 d2 K2 e2) okb _ (HRb.out.below HB.out)).mono ?_
  rintro e1 w2 ⟨rfl, hb⟩
  clear p0 p1 p2 p3 p4 p5 p6 p7 p8 p9 q0 q1 q2 q3 q4 q5 q6 q7 q8 q9
  have HA2 := Lib.hid (Held.below HA1.out hb)
  have HB2 := Lib.hid (Held.below HB1.out hb)
  have HC := Lib.hid (bthen HB.out hb)
  clear hb
  obtain ⟨p0, p1, p2, p3, p4, p5, p6, p7, p8, p9⟩ := HeldN.facts HA2.out
  obtain ⟨q0, q1, q2, q3, q4, q5, q6, q7, q8, q9⟩ := HeldN.facts HB2.out
  cases h1 : decide (nsize X ≤ 20000) with
  | false =>
    have Hq := Lib.hid (show sameN X Y = false by rw [Hs.out]; unfold fitsN; rw [h1, Bool.false_and])
    clear h1
    go_wp2_with fail
    go_ret
    exact ⟨ret_bool Hq.out.symm, HC.out⟩
  | true =>
    have Hs1 := Lib.hid (show sameN X Y = (fitsN Y && eqN X Y) by rw [Hs.out, show fitsN X = true from h1, Bool.true_and])
    clear h1
    cases h1 : decide (nsize Y ≤ 20000) with
    | false =>
      have Hq := Lib.hid (show sameN X Y = false by rw [Hs1.out]; unfold fitsN; rw [h1, Bool.false_and])
      clear h1
      go_wp2_with fail
      go_ret
      exact ⟨ret_bool Hq.out.symm, HC.out⟩
    | true =>
      have Hq := Lib.hid (show sameN X Y = eqN X Y by rw [Hs1.out]; unfold fitsN; rw [h1, Bool.true_and])
      clear h1
      go_wp2_with fail
      refine (ref_alike (SizeOf.sizeOf X) X Y (valN X A c B d K e) (valN Y A2 c2 B2 d2 K2 e2) oka okb _ (HRa.out.below HC.out) (HRb.out.below HC.out) (Nat.le_refl _)).mono ?_
      rintro e1 w3 ⟨rfl, hb⟩
      have HD := Lib.hid (bthen HC.out hb)
      clear hb
      go_wp2_with fail
      go_ret
      exact ⟨ret_bool Hq.out.symm, HD.out⟩
/-- a node at another place -/
abbrev valS (n : N) (A : Option Addr) (c : Nat) (B : Option Addr) (d : Nat) (K : Option Addr) (e : Nat) (p : Int) : Value :=
  .agg #[.int .i64 n.kind, .string ⟨n.text.toArray⟩, .int .i64 n.val.kind, .int .i64 n.val.num, .string ⟨n.val.str.toArray⟩, .slice A n.val.parts.length c, .slice B n.val.keys.length d, .bool n.flag, .slice K n.kids.length e, .int .i64 p]
theorem rd_put {ok : Nat → Prop} {W : World} {n : N} {A B K : Option Addr} {c d e : Nat} (h : NodeRd ok W n A c B d K e) (p : Int) (hp : i64ok p) : RdN ok W (valS n A c B d K e p) (n.put p) :=
  (show NodeRd ok W (n.put p) A c B d K e from ⟨h.kind, hp, h.text, h.val, h.kids, h.cap, h.most, h.len⟩).rd
set_option maxRecDepth 20000 in
set_option maxHeartbeats 4000000 in
theorem law_PrintSames (X Y : N) (va vb : Value) (oka okb : Nat → Prop) (w : World) (ha : RdN oka w va X) (hb : RdN okb w vb Y) (hP : PowAt w.heap.size w) :
    Calls Tryd.prog 3 #[va, vb] w fun e w' => e = .returned (.bool true) ∧ Below w.heap.size w w' := by
  obtain ⟨A, c, B, d, K, e, rfl, hna⟩ := ha.form
  obtain ⟨A2, c2, B2, d2, K2, e2, rfl, hnb⟩ := hb.form
  have HRa := Lib.hid ha
  have HRb := Lib.hid hb
  have HP := Lib.hid (fun (W : World) (hb : Below w.heap.size w W) => (hP.lo hb).up hb.size)
  have H0 := Lib.hid (two_al w (boxN X A c B d K e) (boxN Y A2 c2 B2 d2 K2 e2))
  have HA0 := Lib.hid (show HeldN w.heap.size _ _ _ _ _ _ _ _ _ _ ((w.alloc (boxN X A c B d K e)).alloc (boxN Y A2 c2 B2 d2 K2 e2)) from Held.below (Held.at rfl) (one_al _ _))
  have HB0 := Lib.hid (show HeldN (w.heap.size + 1) _ _ _ _ _ _ _ _ _ _ ((w.alloc (boxN X A c B d K e)).alloc (boxN Y A2 c2 B2 d2 K2 e2)) from Held.at (by simp))
  clear ha hb hna hnb hP
  obtain ⟨p0, p1, p2, p3, p4, p5, p6, p7, p8, p9⟩ := HeldN.facts HA0.out
  obtain ⟨q0, q1, q2, q3, q4, q5, q6, q7, q8, q9⟩ := HeldN.facts HB0.out
  go_enter Tryd.func3, Tryd.ntmps3
  go_wp2_with fail
  refine (law_treeOf X (valN X A c B d K e) oka _ (HRa.out.below H0.out)).mono ?_
  rintro e1 w1 ⟨v', rfl, hv', hb⟩
  obtain ⟨A1, c1, B1, d1, K1, e1, rfl, hn1⟩ := hv'.form
  clear p0 p1 p2 p3 p4 p5 p6 p7 p8 p9 q0 q1 q2 q3 q4 q5 q6 q7 q8 q9
  have hal := one_al w1 (.cells #[.int .i64 X.kind, .string ⟨X.text.toArray⟩, .int .i64 X.val.kind, .int .i64 X.val.num, .string ⟨X.val.str.toArray⟩, .slice A1 X.val.parts.length c1, .slice B1 X.val.keys.length d1, .bool X.flag, .slice K1 X.kids.length e1, .int .i64 77] 28)
  have HC := Lib.hid ((rd_put hn1 77 ⟨by omega, by omega⟩).below hal)
  have HA1 := Lib.hid ((Held.below HA0.out hb).below hal)
  have HB1 := Lib.hid ((Held.below HB0.out hb).below hal)
  have HC1 := Lib.hid (show HeldN w1.heap.size _ _ _ _ _ _ _ _ _ _ (w1.alloc (.cells #[.int .i64 X.kind, .string ⟨X.text.toArray⟩, .int .i64 X.val.kind, .int .i64 X.val.num, .string ⟨X.val.str.toArray⟩, .slice A1 X.val.parts.length c1, .slice B1 X.val.keys.length d1, .bool X.flag, .slice K1 X.kids.length e1, .int .i64 77] 28)) from Held.at rfl)
  have HB := Lib.hid (bthen (bthen H0.out hb) hal)
  clear hv' hn1 hb hal
  go_wp2_with fail
  generalize (w1.alloc (.cells #[.int .i64 X.kind, .string ⟨X.text.toArray⟩, .int .i64 X.val.kind, .int .i64 X.val.num, .string ⟨X.val.str.toArray⟩, .slice A1 X.val.parts.length c1, .slice B1 X.val.keys.length d1, .bool X.flag, .slice K1 X.kids.length e1, .int .i64 77] 28)) = W at *
  obtain ⟨p0, p1, p2, p3, p4, p5, p6, p7, p8, p9⟩ := HeldN.facts HA1.out
  obtain ⟨q0, q1, q2, q3, q4, q5, q6, q7, q8, q9⟩ := HeldN.facts HB1.out
  obtain ⟨s0, s1, s2, s3, s4, s5, s6, s7, s8, s9⟩ := HeldN.facts HC1.out
  have yp0 := cell_regrown p0
  have yp1 := cell_regrown p1
  have yp2 := cell_regrown p2
  have yp3 := cell_regrown p3
  have yp4 := cell_regrown p4
  have yp5 := cell_regrown p5
  have yp6 := cell_regrown p6
  have yp7 := cell_regrown p7
  have yp8 := cell_regrown p8
  have yp9 := cell_regrown p9
  have yq0 := cell_regrown q0
  have yq1 := cell_regrown q1
  have yq2 := cell_regrown q2
  have yq3 := cell_regrown q3
  have yq4 := cell_regrown q4
  have yq5 := cell_regrown q5
  have yq6 := cell_regrown q6
  have yq7 := cell_regrown q7
  have yq8 := cell_regrown q8
  have yq9 := cell_regrown q9
  have ys0 := cell_regrown s0
  have ys1 := cell_regrown s1
  have ys2 := cell_regrown s2
  have ys3 := cell_regrown s3
  have ys4 := cell_regrown s4
  have ys5 := cell_regrown s5
  have ys6 := cell_regrown s6
  have ys7 := cell_regrown s7
  have ys8 := cell_regrown s8
  have ys9 := cell_regrown s9
  clear p0 p1 p2 p3 p4 p5 p6 p7 p8 p9 q0 q1 q2 q3 q4 q5 q6 q7 q8 q9 s0 s1 s2 s3 s4 s5 s6 s7 s8 s9
  have hsy := sameN_symm Y X
  have hsp := sameN_put X 77
  have cSh := fun (d1' : Nat) (os : Array Obj) => Calls.regrown_of (law_shown (grow (redrawn W d1') os) (HP.out _ (bthen HB.out (below_regrown _ d1' os))))
  have cAB := fun (d1' : Nat) (os : Array Obj) => Calls.regrown_of (print_Same X Y (valN X A c B d K e) (valN Y A2 c2 B2 d2 K2 e2) oka okb (grow (redrawn W d1') os) (HRa.out.below (bthen HB.out (below_regrown _ d1' os))) (HRb.out.below (bthen HB.out (below_regrown _ d1' os))))
  have cBA := fun (d1' : Nat) (os : Array Obj) => Calls.regrown_of (print_Same Y X (valN Y A2 c2 B2 d2 K2 e2) (valN X A c B d K e) okb oka (grow (redrawn W d1') os) (HRb.out.below (bthen HB.out (below_regrown _ d1' os))) (HRa.out.below (bthen HB.out (below_regrown _ d1' os))))
  have cAC := fun (d1' : Nat) (os : Array Obj) => Calls.regrown_of (print_Same X (X.put 77) (valN X A c B d K e) (valS X A1 c1 B1 d1 K1 e1 77) oka _ (grow (redrawn W d1') os) (HRa.out.below (bthen HB.out (below_regrown _ d1' os))) (HC.out.below (below_regrown _ d1' os)))
  have rAB := fun (d1' : Nat) (os : Array Obj) => Calls.regrown_of (ref_Same X Y (valN X A c B d K e) (valN Y A2 c2 B2 d2 K2 e2) oka okb (grow (redrawn W d1') os) (HRa.out.below (bthen HB.out (below_regrown _ d1' os))) (HRb.out.below (bthen HB.out (below_regrown _ d1' os))))
  have rAA := fun (d1' : Nat) (os : Array Obj) => Calls.regrown_of (ref_Same X X (valN X A c B d K e) (valN X A c B d K e) oka oka (grow (redrawn W d1') os) (HRa.out.below (bthen HB.out (below_regrown _ d1' os))) (HRa.out.below (bthen HB.out (below_regrown _ d1' os))))
  rw [hsy] at cBA
  rw [hsp] at cAC
  clear hsy hsp
  refine wp_region_quiet_below (by kernel_rfl) (by kernel_rfl) ?_
  repeat (quiet_step (first | with_reducible exact cSh _ _ | with_reducible exact cAB _ _ | with_reducible exact cBA _ _ | with_reducible exact cAC _ _ | with_reducible exact rAB _ _ | with_reducible exact rAA _ _))
  refine wpQuiet_nil ?_
  intro _ hw'
  obtain ⟨⟨dq, osq⟩, hw''⟩ := hw'
  subst hw''
  clear cSh cAB cBA cAC rAB rAA yp0 yq0 ys0 yp1 yq1 ys1 yp2 yq2 ys2 yp3 yq3 ys3 yp4 yq4 ys4 yp5 yq5 ys5 yp6 yq6 ys6 yp7 yq7 ys7 yp8 yq8 ys8 yp9 yq9 ys9
  go_wp2_with fail
  go_ret
  exact ⟨rfl, bthen HB.out (below_regrown _ dq osq)⟩
end Go.Proofs.YthlfeiiolafonaaDoor
