/- The walk of the law PrintTrees: every answer is the plain one. Printed by gen_trees.py. -/
import Derived.Test.YthlfeiiolafonaaGreatDoorPrintRP
import Derived.Test.YthlfeiiolafonaaGreatDoorLawShown
import Derived.Test.YthlfeiiolafonaaGreatDoorStillB
import Derived.Test.YthlfeiiolafonaaGreatDoorTreeB
set_option linter.unusedVariables false
set_option linter.unusedSimpArgs false
namespace Go.Proofs.YthlfeiiolafonaaGreatDoor
open Go.RowKit Go.IntWalk Go.Sort

/-- the cells of kid k, in whatever later world -/
def KidAt (W : World) (g o : Nat) (Y : N) (A : Option Addr) (c : Nat) (B : Option Addr) (d : Nat) (K : Option Addr) (e : Nat) : Prop :=
  W.cell? ⟨g, o, none⟩ = some (.int .i64 Y.kind) ∧ W.cell? ⟨g, o + 1, none⟩ = some (.string ⟨Y.text.toArray⟩) ∧ W.cell? ⟨g, o + 2, none⟩ = some (.int .i64 Y.val.kind) ∧ W.cell? ⟨g, o + 3, none⟩ = some (.int .i64 Y.val.num) ∧ W.cell? ⟨g, o + 4, none⟩ = some (.string ⟨Y.val.str.toArray⟩) ∧
  W.cell? ⟨g, o + 5, none⟩ = some (.slice A Y.val.parts.length c) ∧ W.cell? ⟨g, o + 6, none⟩ = some (.slice B Y.val.keys.length d) ∧ W.cell? ⟨g, o + 7, none⟩ = some (.bool Y.flag) ∧ W.cell? ⟨g, o + 8, none⟩ = some (.slice K Y.kids.length e) ∧ W.cell? ⟨g, o + 9, none⟩ = some (.int .i64 Y.spot)
theorem KidAt.below {W W' : World} {g o : Nat} {Y : N} {A : Option Addr} {c : Nat} {B : Option Addr} {d : Nat} {K : Option Addr} {e : Nat} (h : KidAt W g o Y A c B d K e) (hb : Below W.heap.size W W') : KidAt W' g o Y A c B d K e := by
  obtain ⟨h0, h1, h2, h3, h4, h5, h6, h7, h8, h9⟩ := h
  exact ⟨bcell hb h0, bcell hb h1, bcell hb h2, bcell hb h3, bcell hb h4, bcell hb h5, bcell hb h6, bcell hb h7, bcell hb h8, bcell hb h9⟩
set_option maxRecDepth 20000 in
set_option maxHeartbeats 4000000 in
theorem law_PrintTrees (l : List N) (K : Option Addr) (e : Nat) (ok : Nat → Prop) (w : World) (hl : RdNs ok w (.slice K l.length e) 0 l) (hlen : l.length ≤ 16777216) (hcap : l.length ≤ e) (hmost : e ≤ 9223372036854775807) (hP : PowAt w.heap.size w) :
    Calls Tryz.prog 3 #[.slice K l.length e] w fun e w' => e = .returned (.bool true) ∧ Below w.heap.size w w' := by
  have HL := Lib.hid hl
  have HP := Lib.hid (fun (W : World) (hb : Below w.heap.size w W) => (hP.lo hb).up hb.size)
  clear hl hP
  go_enter Tryz.func3, Tryz.ntmps3
  go_wp2_with fail
  go_loopw [3] (fun i wr => ∃ k : Nat, k ≤ l.length ∧ i = .int .i64 (k : Int) ∧ Below w.heap.size w wr) (fun i _ => l.length - (intOf i).toNat)
  case atStart => exact ⟨0, Nat.zero_le _, rfl, Below.refl _ _⟩
  case round =>
    obtain ⟨k, hk, rfl, hB⟩ := hrel
    have HB := Lib.hid hB
    clear hB
    by_cases hlt : k < l.length
    · have hlA : (k : Int) < (l.length : Int) := by omega
      have h00 : (0 : Int) ≤ (k : Int) := by omega
      obtain ⟨g, off, A', c', B', d', K', e', rfl, _, hn, hkid⟩ := (HL.out.below HB.out).elem k hlt
      have HR := Lib.hid hn.rd
      have HK := Lib.hid (show KidAt wr g (off + k * 10) l[k] A' c' B' d' K' e' from hkid)
      obtain ⟨x0, x1, x2, x3, x4, x5, x6, x7, x8, x9⟩ := hkid
      generalize l[k] = Y at *
      clear hn
      go_wp2_with fail
      refine (law_treeOf Y (valN Y A' c' B' d' K' e') ok _ HR.out).mono ?_
      rintro e1 w1 ⟨v', rfl, hv', hb⟩
      obtain ⟨A1, c1, B1, d1, K1, e1, rfl, _⟩ := hv'.form
      have HV := Lib.hid (hv'.below (one_al w1 (boxN Y A1 c1 B1 d1 K1 e1)))
      have HBa := Lib.hid (bthen hb (one_al w1 (boxN Y A1 c1 B1 d1 K1 e1)))
      have HX := Lib.hid (show HeldN w1.heap.size _ _ _ _ _ _ _ _ _ _ (w1.alloc (boxN Y A1 c1 B1 d1 K1 e1)) from Held.at rfl)
      clear hv' hb x0 x1 x2 x3 x4 x5 x6 x7 x8 x9
      obtain ⟨p0, p1, p2, p3, p4, p5, p6, p7, p8, p9⟩ := HeldN.facts HX.out
      go_wp2_with fail
      refine (print_Program Y (valN Y A1 c1 B1 d1 K1 e1) _ _ HV.out (HP.out _ (bthen HB.out HBa.out))).mono ?_
      rintro e2 w2 ⟨rfl, hb⟩
      have HB2 := Lib.hid hb
      clear hb p0 p1 p2 p3 p4 p5 p6 p7 p8 p9
      obtain ⟨p0, p1, p2, p3, p4, p5, p6, p7, p8, p9⟩ := HeldN.facts (Held.below HX.out HB2.out)
      go_wp2_with fail
      refine (print_Expr Y (valN Y A1 c1 B1 d1 K1 e1) _ _ (HV.out.below HB2.out) (HP.out _ (bthen HB.out (bthen HBa.out HB2.out)))).mono ?_
      rintro e2 w3 ⟨rfl, hb⟩
      have HB3 := Lib.hid (bthen HB2.out hb)
      clear hb p0 p1 p2 p3 p4 p5 p6 p7 p8 p9
      obtain ⟨x0, x1, x2, x3, x4, x5, x6, x7, x8, x9⟩ := HK.out.below (bthen HBa.out HB3.out)
      go_wp2_with fail
      refine (rf_Program Y (valN Y A' c' B' d' K' e') ok _ (HR.out.below (bthen HBa.out HB3.out))).mono ?_
      rintro e2 w4 ⟨rfl, hb⟩
      have HB4 := Lib.hid (bthen HB3.out hb)
      clear hb x0 x1 x2 x3 x4 x5 x6 x7 x8 x9
      obtain ⟨x0, x1, x2, x3, x4, x5, x6, x7, x8, x9⟩ := HK.out.below (bthen HBa.out HB4.out)
      go_wp2_with fail
      refine (rf_Expr Y (valN Y A' c' B' d' K' e') ok _ (HR.out.below (bthen HBa.out HB4.out))).mono ?_
      rintro e2 w5 ⟨rfl, hb⟩
      have HB5 := Lib.hid (bthen HB4.out hb)
      clear hb x0 x1 x2 x3 x4 x5 x6 x7 x8 x9
      have cS := fun (d1' : Nat) (os : Array Obj) => Calls.regrown_of (law_still Y (valN Y A1 c1 B1 d1 K1 e1) (valN Y A' c' B' d' K' e') _ ok (grow (redrawn w5 d1') os) ((HV.out.below HB5.out).below (below_regrown _ d1' os)) ((HR.out.below (bthen HBa.out HB5.out)).below (below_regrown _ d1' os)))
      obtain ⟨x0, x1, x2, x3, x4, x5, x6, x7, x8, x9⟩ := HK.out.below (bthen HBa.out HB5.out)
      obtain ⟨p0, p1, p2, p3, p4, p5, p6, p7, p8, p9⟩ := HeldN.facts (Held.below HX.out HB5.out)
      have yx0 := cell_regrown x0
      have yx1 := cell_regrown x1
      have yx2 := cell_regrown x2
      have yx3 := cell_regrown x3
      have yx4 := cell_regrown x4
      have yx5 := cell_regrown x5
      have yx6 := cell_regrown x6
      have yx7 := cell_regrown x7
      have yx8 := cell_regrown x8
      have yx9 := cell_regrown x9
      have yp0 := cell_regrown p0
      have yp1 := cell_regrown p1
      have yp2 := cell_regrown p2
      have yp3 := cell_regrown p3
      have yp4 := cell_regrown p4
      have yp5 := cell_regrown p5
      have yp6 := cell_regrown p6
      have yp7 := cell_regrown p7
      have yp8 := cell_regrown p8
      have yp9 := cell_regrown p9
      clear x0 x1 x2 x3 x4 x5 x6 x7 x8 x9 p0 p1 p2 p3 p4 p5 p6 p7 p8 p9
      go_upto_region 9 with fail
      refine wp_region_quiet_below (by kernel_rfl) (by kernel_rfl) ?_
      repeat (quiet_step (with_reducible exact cS _ _))
      refine wpQuiet_nil ?_
      intro _ hw'
      obtain ⟨⟨dq, osq⟩, hw''⟩ := hw'
      subst hw''
      clear cS yx0 yx1 yx2 yx3 yx4 yx5 yx6 yx7 yx8 yx9 yp0 yp1 yp2 yp3 yp4 yp5 yp6 yp7 yp8 yp9
      have HB6 := Lib.hid (bthen HB5.out (below_regrown _ dq osq))
      generalize grow (redrawn w5 dq) osq = w6 at *
      have cR := fun (d1' : Nat) (os : Array Obj) => Calls.regrown_of (print_Right Y (valN Y A1 c1 B1 d1 K1 e1) _ (grow (redrawn w6 d1') os) ((HV.out.below HB6.out).below (below_regrown _ d1' os)))
      have cQ := fun (d1' : Nat) (os : Array Obj) => Calls.regrown_of (rf_Right Y (valN Y A' c' B' d' K' e') ok (grow (redrawn w6 d1') os) ((HR.out.below (bthen HBa.out HB6.out)).below (below_regrown _ d1' os)))
      obtain ⟨x0, x1, x2, x3, x4, x5, x6, x7, x8, x9⟩ := HK.out.below (bthen HBa.out HB6.out)
      obtain ⟨p0, p1, p2, p3, p4, p5, p6, p7, p8, p9⟩ := HeldN.facts (Held.below HX.out HB6.out)
      have yx0 := cell_regrown x0
      have yx1 := cell_regrown x1
      have yx2 := cell_regrown x2
      have yx3 := cell_regrown x3
      have yx4 := cell_regrown x4
      have yx5 := cell_regrown x5
      have yx6 := cell_regrown x6
      have yx7 := cell_regrown x7
      have yx8 := cell_regrown x8
      have yx9 := cell_regrown x9
      have yp0 := cell_regrown p0
      have yp1 := cell_regrown p1
      have yp2 := cell_regrown p2
      have yp3 := cell_regrown p3
      have yp4 := cell_regrown p4
      have yp5 := cell_regrown p5
      have yp6 := cell_regrown p6
      have yp7 := cell_regrown p7
      have yp8 := cell_regrown p8
      have yp9 := cell_regrown p9
      clear x0 x1 x2 x3 x4 x5 x6 x7 x8 x9 p0 p1 p2 p3 p4 p5 p6 p7 p8 p9
      go_upto_region 10 with fail
      refine wp_region_quiet_below (by kernel_rfl) (by kernel_rfl) ?_
      repeat (quiet_step (first | with_reducible exact cR _ _ | with_reducible exact cQ _ _))
      refine wpQuiet_nil ?_
      intro _ hw'
      obtain ⟨⟨dq, osq⟩, hw''⟩ := hw'
      subst hw''
      clear cR cQ yx0 yx1 yx2 yx3 yx4 yx5 yx6 yx7 yx8 yx9 yp0 yp1 yp2 yp3 yp4 yp5 yp6 yp7 yp8 yp9
      go_wp2_with fail
      exact ⟨⟨k + 1, by omega, by go_num, bthen HB.out (bthen HBa.out (bthen HB6.out (below_regrown _ dq osq)))⟩, by simp [intOf]; omega⟩
    · have hlA : ¬ (k : Int) < (l.length : Int) := by omega
      go_wp2_with fail
      refine (law_shown _ (HP.out _ HB.out)).mono ?_
      rintro e2 w2 ⟨rfl, hb⟩
      go_wp2_with fail
      go_ret
      exact ⟨rfl, bthen HB.out hb⟩
end Go.Proofs.YthlfeiiolafonaaGreatDoor
