/- PrimJoins, walked. Printed by gen_joins.py. -/
import Derived.Test.YtacaknkfddlklaaGreatDoorJoinsShort
set_option linter.unusedVariables false
set_option linter.unusedSimpArgs false
namespace Go.Proofs.YtacaknkfddlklaaGreatDoor
open Go.RowKit Go.IntWalk

set_option maxRecDepth 20000 in
set_option maxHeartbeats 8000000 in
theorem law_joins_full (a b R : V) (hk : R.kind ≠ 2) (hm : i64ok (longS a)) (hn : i64ok (longS R)) (va vb : Value) (oka okb : Nat → Prop) (w : World) (hva : RdV oka w va a) (hvb : RdV okb w vb b) (hl : Hid (CodeLaid w))
    (HD1 : Hid (∀ A W, RdVs anyB W (.slice A 2 2) 0 [a, b] → Hid (CodeLaid W) → Calls Tryz.prog 12 #[.int .i64 10, aggV 0 0, .slice A 2 2] W (AnsPost W R 0)))
    (HD2 : Hid (∀ A W, RdVs anyB W (.slice A 1 1) 0 [a] → Hid (CodeLaid W) → Calls Tryz.prog 12 #[.int .i64 27, aggV 0 0, .slice A 1 1] W (KPost W 2 (longS a) 0)))
    (HD3 : Hid (∀ A W, RdVs anyB W (.slice A 1 1) 0 [R] → Hid (CodeLaid W) → Calls Tryz.prog 12 #[.int .i64 27, aggV 0 0, .slice A 1 1] W (KPost W 2 (longS R) 0)))
    (HD4 : Hid (∀ A W, RdVs anyB W (.slice A 3 3) 0 [R, numb 0, numb (longS a)] → Hid (CodeLaid W) → Calls Tryz.prog 12 #[.int .i64 30, aggV 0 0, .slice A 3 3] W (AnsPost W a 0)))
    (HD5 : Hid (∀ A W, RdVs anyB W (.slice A 3 3) 0 [R, numb (longS a), numb (longS R)] → Hid (CodeLaid W) → Calls Tryz.prog 12 #[.int .i64 30, aggV 0 0, .slice A 3 3] W (AnsPost W b 0))) :
    Calls Tryz.prog 7 #[va, vb] w fun e w' => e = .returned (.bool true) ∧ Below w.heap.size w w' := by
  have gk : (R.kind == 2) = false := by simpa using hk
  have Hm := Lib.hid hm
  have Hn := Lib.hid hn
  clear hk hm hn
  obtain ⟨Aa, ca, Ba, da, rfl, _⟩ := hva.form
  obtain ⟨Ab, cb, Bb, db, rfl, _⟩ := hvb.form
  have Hva := Lib.hid hva
  have Hvb := Lib.hid hvb
  have HB := Lib.hid (two_boxes w (.int .i64 a.kind) (.int .i64 a.num) (.string ⟨a.str.toArray⟩) (.slice Aa a.parts.length ca) (.slice Ba a.keys.length da) (.int .i64 b.kind) (.int .i64 b.num) (.string ⟨b.str.toArray⟩) (.slice Ab b.parts.length cb) (.slice Bb b.keys.length db))
  have HW := Lib.hid (two_alloc w (.cells #[.int .i64 a.kind, .int .i64 a.num, .string ⟨a.str.toArray⟩, .slice Aa a.parts.length ca, .slice Ba a.keys.length da] 25) (.cells #[.int .i64 b.kind, .int .i64 b.num, .string ⟨b.str.toArray⟩, .slice Ab b.parts.length cb, .slice Bb b.keys.length db] 25))
  clear hva hvb
  go_enter Tryz.func7, Tryz.ntmps7
  go_wp2_with fail
  refine (prim_shown _ (Lib.hid (hl.out.below HW.out))).mono ?_
  rintro e w1 ⟨rfl, hb1⟩
  have HB1 := Lib.hid (SameSt.mk (v1 := valV a Aa ca Ba da) (v2 := valV b Ab cb Bb db) (HB.out.1.below hb1) (HB.out.2.below hb1) (bthen HW.out hb1))
  clear hb1
  obtain ⟨p0, p1, p2, p3, p4⟩ := HB1.out.one.get
  obtain ⟨q0, q1, q2, q3, q4⟩ := HB1.out.two.get
  go_wp2_with fail
  refine (HD1.out _ _ (list2 rfl (Hva.out.below HB1.out.bel) (Hvb.out.below HB1.out.bel)) (Lib.hid (hl.out.below (bthen HB1.out.bel (one_b _ _))))).mono ?_
  rintro e w2 ⟨v', rfl, hv', hb2⟩
  obtain ⟨A6, c6, B6, d6, rfl, _⟩ := hv'.form
  have HB2 := Lib.hid (HB1.out.below (bthen (one_b _ _) hb2))
  have HR2 := Lib.hid (hv'.imp (ok' := anyB) (fun _ _ => trivial))
  clear p0 p1 p2 p3 p4 q0 q1 q2 q3 q4 hv' hb2
  obtain ⟨zp0, zp1, zp2, zp3, zp4⟩ := HB2.out.one.get
  have p10 := fun X => bcell (one_b w2 X) zp0
  have p11 := fun X => bcell (one_b w2 X) zp1
  have p12 := fun X => bcell (one_b w2 X) zp2
  have p13 := fun X => bcell (one_b w2 X) zp3
  have p14 := fun X => bcell (one_b w2 X) zp4
  clear zp0 zp1 zp2 zp3 zp4
  go_wp2_with fail
  refine (HD2.out _ _ (list1 (by simp) (Hva.out.below (bthen HB2.out.bel (one_b _ _)))) (Lib.hid (hl.out.below (bthen HB2.out.bel (two_alloc _ _ _))))).mono ?_
  rintro e w3 ⟨A8, c8, B8, d8, rfl, hc8, hd8, hb3⟩
  have hs := bthen (two_alloc w2 _ _) hb3
  have HB3 := Lib.hid (HB2.out.below hs)
  have HR3 := Lib.hid (HR2.out.below hs)
  have T6 := Lib.hid ((Five.new w2 (.int .i64 R.kind) (.int .i64 R.num) (.string ⟨R.str.toArray⟩) (.slice A6 R.parts.length c6) (.slice B6 R.keys.length d6) 25 rfl).below (bthen (one_b _ _) hb3))
  clear hs hb3 p10 p11 p12 p13 p14
  obtain ⟨zx0, zx1, zx2, zx3, zx4⟩ := T6.out.get
  have x10 := fun X => bcell (one_b w3 X) zx0
  have x11 := fun X => bcell (one_b w3 X) zx1
  have x12 := fun X => bcell (one_b w3 X) zx2
  have x13 := fun X => bcell (one_b w3 X) zx3
  have x14 := fun X => bcell (one_b w3 X) zx4
  clear zx0 zx1 zx2 zx3 zx4
  go_wp2_with fail
  refine (HD3.out _ _ (list1 (by simp) (HR3.out.below (one_b _ _))) (Lib.hid (hl.out.below (bthen HB3.out.bel (two_alloc _ _ _))))).mono ?_
  rintro e w4 ⟨A10, c10, B10, d10, rfl, hc10, hd10, hb4⟩
  have hs := bthen (two_alloc w3 _ _) hb4
  have HB4 := Lib.hid (HB3.out.below hs)
  have HR4 := Lib.hid (HR3.out.below hs)
  have S6 := Lib.hid (T6.out.below hs)
  have S8 := Lib.hid ((Five.new w3 (.int .i64 2) (.int .i64 (longS a)) (.string ⟨#[]⟩) (.slice A8 0 c8) (.slice B8 0 d8) 25 rfl).below (bthen (one_b _ _) hb4))
  clear hs hb4 x10 x11 x12 x13 x14
  obtain ⟨zx0, zx1, zx2, zx3, zx4⟩ := S6.out.get
  have x10 := fun X => bcell (one_b w4 X) zx0
  have x11 := fun X => bcell (one_b w4 X) zx1
  have x12 := fun X => bcell (one_b w4 X) zx2
  have x13 := fun X => bcell (one_b w4 X) zx3
  have x14 := fun X => bcell (one_b w4 X) zx4
  have x20 := fun X Y => bcell (two_alloc w4 X Y) zx0
  have x21 := fun X Y => bcell (two_alloc w4 X Y) zx1
  have x22 := fun X Y => bcell (two_alloc w4 X Y) zx2
  have x23 := fun X Y => bcell (two_alloc w4 X Y) zx3
  have x24 := fun X Y => bcell (two_alloc w4 X Y) zx4
  have x30 := fun X Y Z => bcell (three_alloc w4 X Y Z) zx0
  have x31 := fun X Y Z => bcell (three_alloc w4 X Y Z) zx1
  have x32 := fun X Y Z => bcell (three_alloc w4 X Y Z) zx2
  have x33 := fun X Y Z => bcell (three_alloc w4 X Y Z) zx3
  have x34 := fun X Y Z => bcell (three_alloc w4 X Y Z) zx4
  clear zx0 zx1 zx2 zx3 zx4
  obtain ⟨zy0, zy1, zy2, zy3, zy4⟩ := S8.out.get
  have y10 := fun X => bcell (one_b w4 X) zy0
  have y11 := fun X => bcell (one_b w4 X) zy1
  have y12 := fun X => bcell (one_b w4 X) zy2
  have y13 := fun X => bcell (one_b w4 X) zy3
  have y14 := fun X => bcell (one_b w4 X) zy4
  have y20 := fun X Y => bcell (two_alloc w4 X Y) zy0
  have y21 := fun X Y => bcell (two_alloc w4 X Y) zy1
  have y22 := fun X Y => bcell (two_alloc w4 X Y) zy2
  have y23 := fun X Y => bcell (two_alloc w4 X Y) zy3
  have y24 := fun X Y => bcell (two_alloc w4 X Y) zy4
  have y30 := fun X Y Z => bcell (three_alloc w4 X Y Z) zy0
  have y31 := fun X Y Z => bcell (three_alloc w4 X Y Z) zy1
  have y32 := fun X Y Z => bcell (three_alloc w4 X Y Z) zy2
  have y33 := fun X Y Z => bcell (three_alloc w4 X Y Z) zy3
  have y34 := fun X Y Z => bcell (three_alloc w4 X Y Z) zy4
  clear zy0 zy1 zy2 zy3 zy4
  go_upto_region 7 with fail
  go_cut [12, 13] (fun p12 v13 wx => ∃ g, p12 = .pointer (some ⟨g, 0, none⟩) ∧ v13 = .int .i64 0 ∧ BxV wx g a ∧ Below (w4.alloc (.cells #[.int .i64 2, .int .i64 (longS R), .string ⟨#[]⟩, .slice A10 0 c10, .slice B10 0 d10] 25)).heap.size (w4.alloc (.cells #[.int .i64 2, .int .i64 (longS R), .string ⟨#[]⟩, .slice A10 0 c10, .slice B10 0 d10] 25)) wx)
  case first =>
    go_region_with (first
      | (go_at_call 25; refine (law_number _ _).mono ?_; rintro e wn ⟨rfl, rfl⟩)
      | (go_at_call 12; (with_reducible refine (HD4.out _ _ ((list3 (W := (((w4.alloc (.cells #[.int .i64 2, .int .i64 (longS R), .string ⟨#[]⟩, .slice A10 0 c10, .slice B10 0 d10] 25)).alloc (cellsV 0 0)).alloc (cellsV 2 0))) (sz3 _ _ _ _) (HR4.out.below (three_alloc _ _ _ _)) (numb_rd (ok := anyB) (z := 0) i64ok_0 (A := none) (B := none) (c := 0) (d := 0) (Nat.zero_le _) (Nat.zero_le _)) (numb_rd (ok := anyB) Hm.out hc8 hd8)).below drw) (Lib.hid (hl.out.below (bthen HB4.out.bel (four_alloc _ _ _ _ _).drew)))).mono ?_); rintro e w5 ⟨v', rfl, hv', hb5⟩; obtain ⟨A4, c4, B4', d4, rfl, _⟩ := hv'.form; have HV5 := Lib.hid hv'; have HB5 := Lib.hid (bthen ((three_alloc _ _ _ _ : Below (w4.alloc (.cells #[.int .i64 2, .int .i64 (longS R), .string ⟨#[]⟩, .slice A10 0 c10, .slice B10 0 d10] 25)).heap.size _ _).drew) hb5); have HZ := Lib.hid ((((Zr.made (w4.alloc (.cells #[.int .i64 2, .int .i64 (longS R), .string ⟨#[]⟩, .slice A10 0 c10, .slice B10 0 d10] 25)) (g := w4.heap.size + 1) (by simp)).below (two_alloc _ _ _)).below drw).below hb5); obtain ⟨z0, z1, z2, z3, z4, zf⟩ := HZ.out; have f0 := zf 0; have f1 := zf 1; have f2 := zf 2; have f3 := zf 3; have f4 := zf 4; clear hb5 zf hv')
      | (go_at_call 12; (with_reducible refine (HD4.out _ _ ((list3 (W := (((w4.alloc (.cells #[.int .i64 2, .int .i64 (longS R), .string ⟨#[]⟩, .slice A10 0 c10, .slice B10 0 d10] 25)).alloc (cellsV 2 0)).alloc (cellsV 0 0))) (sz3 _ _ _ _) (HR4.out.below (three_alloc _ _ _ _)) (numb_rd (ok := anyB) (z := 0) i64ok_0 (A := none) (B := none) (c := 0) (d := 0) (Nat.zero_le _) (Nat.zero_le _)) (numb_rd (ok := anyB) Hm.out hc8 hd8)).below drw) (Lib.hid (hl.out.below (bthen HB4.out.bel (four_alloc _ _ _ _ _).drew)))).mono ?_); rintro e w5 ⟨v', rfl, hv', hb5⟩; obtain ⟨A4, c4, B4', d4, rfl, _⟩ := hv'.form; have HV5 := Lib.hid hv'; have HB5 := Lib.hid (bthen ((three_alloc _ _ _ _ : Below (w4.alloc (.cells #[.int .i64 2, .int .i64 (longS R), .string ⟨#[]⟩, .slice A10 0 c10, .slice B10 0 d10] 25)).heap.size _ _).drew) hb5); have HZ := Lib.hid ((((Zr.made ((w4.alloc (.cells #[.int .i64 2, .int .i64 (longS R), .string ⟨#[]⟩, .slice A10 0 c10, .slice B10 0 d10] 25)).alloc (cellsV 2 0)) (g := w4.heap.size + 1 + 1) (by simp)).below (one_b _ _)).below drw).below hb5); obtain ⟨z0, z1, z2, z3, z4, zf⟩ := HZ.out; have f0 := zf 0; have f1 := zf 1; have f2 := zf 2; have f3 := zf 3; have f4 := zf 4; clear hb5 zf hv')
      | (go_at_call 12; (with_reducible refine (HD4.out _ _ (((list3 (W := ((w4.alloc (.cells #[.int .i64 2, .int .i64 (longS R), .string ⟨#[]⟩, .slice A10 0 c10, .slice B10 0 d10] 25)).alloc (cellsV 2 0))) (sz2 _ _ _) (HR4.out.below (two_alloc _ _ _)) (numb_rd (ok := anyB) (z := 0) i64ok_0 (A := none) (B := none) (c := 0) (d := 0) (Nat.zero_le _) (Nat.zero_le _)) (numb_rd (ok := anyB) Hm.out hc8 hd8)).below (one_b _ (cellsV 0 0))).below drw) (Lib.hid (hl.out.below (bthen HB4.out.bel (four_alloc _ _ _ _ _).drew)))).mono ?_); rintro e w5 ⟨v', rfl, hv', hb5⟩; obtain ⟨A4, c4, B4', d4, rfl, _⟩ := hv'.form; have HV5 := Lib.hid hv'; have HB5 := Lib.hid (bthen ((three_alloc _ _ _ _ : Below (w4.alloc (.cells #[.int .i64 2, .int .i64 (longS R), .string ⟨#[]⟩, .slice A10 0 c10, .slice B10 0 d10] 25)).heap.size _ _).drew) hb5); have HZ := Lib.hid (((Zr.made (((w4.alloc (.cells #[.int .i64 2, .int .i64 (longS R), .string ⟨#[]⟩, .slice A10 0 c10, .slice B10 0 d10] 25)).alloc (cellsV 2 0)).alloc _) (g := w4.heap.size + 1 + 1 + 1) (by simp)).below drw).below hb5); obtain ⟨z0, z1, z2, z3, z4, zf⟩ := HZ.out; have f0 := zf 0; have f1 := zf 1; have f2 := zf 2; have f3 := zf 3; have f4 := zf 4; clear hb5 zf hv')
      | (go_at_call 12; (with_reducible refine (HD4.out _ _ ((list3 (W := ((w4.alloc (.cells #[.int .i64 2, .int .i64 (longS R), .string ⟨#[]⟩, .slice A10 0 c10, .slice B10 0 d10] 25)).alloc (cellsV 2 0))) (sz2 _ _ _) (HR4.out.below (two_alloc _ _ _)) (numb_rd (ok := anyB) (z := 0) i64ok_0 (A := none) (B := none) (c := 0) (d := 0) (Nat.zero_le _) (Nat.zero_le _)) (numb_rd (ok := anyB) Hm.out hc8 hd8)).below drw) (Lib.hid (hl.out.below (bthen HB4.out.bel (three_alloc _ _ _ _).drew)))).mono ?_); rintro e w5 ⟨v', rfl, hv', hb5⟩; obtain ⟨A4, c4, B4', d4, rfl, _⟩ := hv'.form; have HV5 := Lib.hid hv'; have HB5 := Lib.hid (bthen ((two_alloc _ _ _ : Below (w4.alloc (.cells #[.int .i64 2, .int .i64 (longS R), .string ⟨#[]⟩, .slice A10 0 c10, .slice B10 0 d10] 25)).heap.size _ _).drew) hb5); clear hb5 hv'))
    all_goals go_wp2_with fail
    all_goals go_meet
    all_goals first
    | with_reducible exact relV_sets HZ.out le_q1 lt_q1 HV5.out HB5.out
    | with_reducible exact relV_sets HZ.out le_q2 lt_q2 HV5.out HB5.out
    | with_reducible exact relV_sets HZ.out le_q3 lt_q3 HV5.out HB5.out
    | with_reducible exact relV_made HV5.out HB5.out
  case rest =>
    obtain ⟨g12, rfl, rfl, hx12, hb5⟩ := hcut
    clear x10 x11 x12 x13 x14 x20 x21 x22 x23 x24 x30 x31 x32 x33 x34 y10 y11 y12 y13 y14 y20 y21 y22 y23 y24 y30 y31 y32 y33 y34
    have hs := bthen (one_b w4 _) hb5
    have HB5 := Lib.hid (HB4.out.below hs)
    have HR5 := Lib.hid (HR4.out.below hs)
    have V6 := Lib.hid (S6.out.below hs)
    have V8 := Lib.hid (S8.out.below hs)
    have V10 := Lib.hid ((Five.new w4 (.int .i64 2) (.int .i64 (longS R)) (.string ⟨#[]⟩) (.slice A10 0 c10) (.slice B10 0 d10) 25 rfl).below hb5)
    have X12 := Lib.hid hx12
    clear hs hb5 hx12
    obtain ⟨x0, x1, x2, x3, x4⟩ := V6.out.get
    obtain ⟨y0, y1, y2, y3, y4⟩ := V8.out.get
    obtain ⟨z0, z1, z2, z3, z4⟩ := V10.out.get
    go_wp2_with fail
    refine (HD5.out _ _ (list3 rfl HR5.out (numb_rd (ok := anyB) Hm.out hc8 hd8) (numb_rd (ok := anyB) Hn.out hc10 hd10)) (Lib.hid (hl.out.below (bthen HB5.out.bel (one_b _ _))))).mono ?_
    rintro e w6 ⟨v', rfl, hv', hb6⟩
    obtain ⟨A14, c14, B14, d14, rfl, _⟩ := hv'.form
    have hs := bthen (one_b _ _) hb6
    have HB6 := Lib.hid (HB5.out.below hs)
    have Y12 := Lib.hid (X12.out.below hs)
    have HV6 := Lib.hid (hv'.imp (ok' := anyB) fun _ _ => trivial)
    clear hs hv' hb6 x0 x1 x2 x3 x4 y0 y1 y2 y3 y4 z0 z1 z2 z3 z4
    obtain ⟨A12, c12, B12, d12, F12, R12⟩ := Y12.out
    have HF12 := Lib.hid F12
    have HR12 := Lib.hid R12
    clear F12 R12
    obtain ⟨zx0, zx1, zx2, zx3, zx4⟩ := HF12.out.get
    have x10 := fun X => bcell (one_b w6 X) zx0
    have x11 := fun X => bcell (one_b w6 X) zx1
    have x12 := fun X => bcell (one_b w6 X) zx2
    have x13 := fun X => bcell (one_b w6 X) zx3
    have x14 := fun X => bcell (one_b w6 X) zx4
    clear zx0 zx1 zx2 zx3 zx4
    obtain ⟨zp0, zp1, zp2, zp3, zp4⟩ := HB6.out.one.get
    have p10 := fun X => bcell (one_b w6 X) zp0
    have p11 := fun X => bcell (one_b w6 X) zp1
    have p12 := fun X => bcell (one_b w6 X) zp2
    have p13 := fun X => bcell (one_b w6 X) zp3
    have p14 := fun X => bcell (one_b w6 X) zp4
    clear zp0 zp1 zp2 zp3 zp4
    go_wp2_with fail
    refine (law_Same _ a _ _ anyB oka _ (HR12.out.below (one_b _ _)) (Hva.out.below (bthen HB6.out.bel (one_b _ _))) (Nat.le_refl _)).mono ?_
    rintro e w7 ⟨rfl, hb7⟩
    have hs := bthen (one_b w6 _) hb7
    have HB7 := Lib.hid (HB6.out.below hs)
    have HV7 := Lib.hid (HV6.out.below hs)
    have V14 := Lib.hid ((Five.new w6 (.int .i64 b.kind) (.int .i64 b.num) (.string ⟨b.str.toArray⟩) (.slice A14 b.parts.length c14) (.slice B14 b.keys.length d14) 25 rfl).below hb7)
    clear hs hb7 x10 x11 x12 x13 x14 p10 p11 p12 p13 p14
    obtain ⟨x0, x1, x2, x3, x4⟩ := V14.out.get
    obtain ⟨y0, y1, y2, y3, y4⟩ := HB7.out.two.get
    go_wp2_with fail
    refine (law_Same _ b _ _ anyB okb _ HV7.out (Hvb.out.below HB7.out.bel) (Nat.le_refl _)).mono ?_
    rintro e w8 ⟨rfl, hb8⟩
    have HB8 := Lib.hid (bthen HB7.out.bel hb8)
    clear hb8 x0 x1 x2 x3 x4 y0 y1 y2 y3 y4
    go_wp2_with fail
    go_ret
    exact ⟨rfl, HB8.out⟩
end Go.Proofs.YtacaknkfddlklaaGreatDoor
