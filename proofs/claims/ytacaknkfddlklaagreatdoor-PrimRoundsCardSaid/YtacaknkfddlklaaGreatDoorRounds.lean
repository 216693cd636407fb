/- PrimRounds, walked. Printed by gen_rounds.py. -/
import Derived.Test.YtacaknkfddlklaaGreatDoorPrimShown
import Derived.Test.YtacaknkfddlklaaGreatDoorRoundsLaw
import Derived.Deep.DeepCutAuto
set_option linter.unusedVariables false
set_option linter.unusedSimpArgs false
namespace Go.Proofs.YtacaknkfddlklaaGreatDoor
open Go.RowKit Go.IntWalk

/-- a box that holds a plain value -/
def Bx (w : World) (g : Nat) (k n : Int) : Prop := ∃ A c B d, c ≤ 9223372036854775807 ∧ d ≤ 9223372036854775807 ∧ w.cell? ⟨g, 0, none⟩ = some (.int .i64 k) ∧ w.cell? ⟨g, 1, none⟩ = some (.int .i64 n) ∧ w.cell? ⟨g, 2, none⟩ = some (.string ⟨#[]⟩) ∧ w.cell? ⟨g, 3, none⟩ = some (.slice A 0 c) ∧ w.cell? ⟨g, 4, none⟩ = some (.slice B 0 d)
theorem Bx.below {w w1 : World} {g : Nat} {k n : Int} (h : Bx w g k n) (hb : Below w.heap.size w w1) : Bx w1 g k n := by
  obtain ⟨A, c, B, d, h1, h2, e0, e1, e2, e3, e4⟩ := h
  exact ⟨A, c, B, d, h1, h2, bcell hb e0, bcell hb e1, bcell hb e2, bcell hb e3, bcell hb e4⟩
theorem Bx.made (w : World) (k n : Int) (A B : Option Addr) {c d : Nat} (hc : c ≤ 9223372036854775807) (hd : d ≤ 9223372036854775807) : Bx (w.alloc (.cells #[.int .i64 k, .int .i64 n, .string ⟨#[]⟩, .slice A 0 c, .slice B 0 d] 25)) w.heap.size k n :=
  ⟨A, c, B, d, hc, hd, World.cell?_alloc_at _ _ _ _ rfl, World.cell?_alloc_at _ _ _ _ rfl, World.cell?_alloc_at _ _ _ _ rfl, World.cell?_alloc_at _ _ _ _ rfl, World.cell?_alloc_at _ _ _ _ rfl⟩
theorem one_b (w : World) (X : Obj) : Below w.heap.size w (w.alloc X) := (Below.refl _ _).alloc (Nat.le_refl _) X
theorem do13z' (a b : Int) (hz : b = 0) (A : Option Addr) (c : Nat) (ok : Nat → Prop) (w : World) (hls : RdVs ok w (.slice A 2 c) 0 [numb a, numb b]) (hlc : 2 ≤ c) (hcm : c ≤ 9223372036854775807) (hl : Hid (CodeLaid w)) :
    Calls Tryz.prog 12 #[.int .i64 13, aggV 0 0, .slice A 2 c] w (KPost w 0 0 1) := by
  subst hz; exact do13z a A c ok w hls hlc hcm hl
theorem do14z' (a b : Int) (hz : b = 0) (A : Option Addr) (c : Nat) (ok : Nat → Prop) (w : World) (hls : RdVs ok w (.slice A 2 c) 0 [numb a, numb b]) (hlc : 2 ≤ c) (hcm : c ≤ 9223372036854775807) (hl : Hid (CodeLaid w)) :
    Calls Tryz.prog 12 #[.int .i64 14, aggV 0 0, .slice A 2 c] w (KPost w 0 0 1) := by
  subst hz; exact do14z a A c ok w hls hlc hcm hl
theorem le2 : 2 ≤ 9223372036854775807 := by decide
theorem sz2 (w : World) (X Y : Obj) : w.heap.size + 1 + 1 = ((w.alloc X).alloc Y).heap.size := by simp
theorem sz3 (w : World) (X Y Z : Obj) : w.heap.size + 1 + 1 + 1 = (((w.alloc X).alloc Y).alloc Z).heap.size := by simp
theorem drw {w : World} : Below w.heap.size w w.drew := (Below.refl _ _).drew
theorem two_d (w : World) (X Y Z : Obj) : Below w.heap.size w (((w.alloc X).drew.alloc Y).alloc Z) := ((((Below.refl _ _).alloc (Nat.le_refl _) X).drew).alloc (by simp) Y).alloc (by simp; omega) Z
theorem three_d (w : World) (X Y Z U : Obj) : Below w.heap.size w ((((w.alloc X).drew.alloc Y).alloc Z).alloc U) := (two_d w X Y Z).alloc (by simp; omega) U
/-- a box that holds the zero value, to be written -/
def Zr (w : World) (g : Nat) : Prop := w.cell? ⟨g, 0, none⟩ = some (.int .i64 0) ∧ w.cell? ⟨g, 1, none⟩ = some (.int .i64 0) ∧ w.cell? ⟨g, 2, none⟩ = some (.string ⟨#[]⟩) ∧ w.cell? ⟨g, 3, none⟩ = some (.slice none 0 0) ∧ w.cell? ⟨g, 4, none⟩ = some (.slice none 0 0) ∧ ∀ i, w.frozen? ⟨g, i, none⟩ = false
theorem Zr.made (w : World) {g : Nat} (hg : g = w.heap.size) : Zr (w.alloc (cellsV 0 0)) g := by
  subst hg
  exact ⟨World.cell?_alloc_at _ _ _ _ rfl, World.cell?_alloc_at _ _ _ _ rfl, World.cell?_alloc_at _ _ _ _ rfl, World.cell?_alloc_at _ _ _ _ rfl, World.cell?_alloc_at _ _ _ _ rfl, fun i => World.frozen?_alloc_at _ _ _ _ rfl⟩
theorem Zr.below {w w1 : World} {g : Nat} (h : Zr w g) (hb : Below w.heap.size w w1) : Zr w1 g := by
  obtain ⟨h0, h1, h2, h3, h4, hf⟩ := h
  exact ⟨bcell hb h0, bcell hb h1, bcell hb h2, bcell hb h3, bcell hb h4, fun i => (World.frozen?_of_block (a := ⟨g, i, none⟩) (hb.block _ (lt_of_cell h0))).trans (hf i)⟩
theorem Bx.sets {w : World} {g : Nat} {k n : Int} {A B : Option Addr} {c d : Nat} (h : Zr w g) (hc : c ≤ 9223372036854775807) (hd : d ≤ 9223372036854775807) :
    Bx (((((w.setCell ⟨g, 0, none⟩ (.int .i64 k)).setCell ⟨g, 1, none⟩ (.int .i64 n)).setCell ⟨g, 2, none⟩ (.string ⟨#[]⟩)).setCell ⟨g, 3, none⟩ (.slice A 0 c)).setCell ⟨g, 4, none⟩ (.slice B 0 d)) g k n := by
  obtain ⟨h0, h1, h2, h3, h4, hf⟩ := h
  refine ⟨A, c, B, d, hc, hd, ?_, ?_, ?_, ?_, ?_⟩ <;> simp [go_sem, World.cell?_setCell_far, h0, h1, h2, h3, h4]
theorem rel_sets {w4 w5 : World} {g : Nat} {k n t : Int} {A B : Option Addr} {c d : Nat} (h : Zr w5 g) (hc : c ≤ 9223372036854775807) (hd : d ≤ 9223372036854775807) (hg : w4.heap.size ≤ g) (hb : Below w4.heap.size w4 w5) :
    ∃ g', Value.pointer (some ⟨g, 0, none⟩) = Value.pointer (some ⟨g', 0, none⟩) ∧ Value.int .i64 t = Value.int .i64 t ∧ Bx (((((w5.setCell ⟨g, 0, none⟩ (.int .i64 k)).setCell ⟨g, 1, none⟩ (.int .i64 n)).setCell ⟨g, 2, none⟩ (.string ⟨#[]⟩)).setCell ⟨g, 3, none⟩ (.slice A 0 c)).setCell ⟨g, 4, none⟩ (.slice B 0 d)) g' k n ∧
      Below w4.heap.size w4 (((((w5.setCell ⟨g, 0, none⟩ (.int .i64 k)).setCell ⟨g, 1, none⟩ (.int .i64 n)).setCell ⟨g, 2, none⟩ (.string ⟨#[]⟩)).setCell ⟨g, 3, none⟩ (.slice A 0 c)).setCell ⟨g, 4, none⟩ (.slice B 0 d)) :=
  ⟨g, rfl, rfl, Bx.sets h hc hd, five_sets hb hg _ _ _ _ _ _ _ _ _ _⟩
theorem rel_made {w4 w5 : World} {k n t : Int} {A B : Option Addr} {c d : Nat} (hc : c ≤ 9223372036854775807) (hd : d ≤ 9223372036854775807) (hb : Below w4.heap.size w4 w5) :
    ∃ g', Value.pointer (some ⟨w5.heap.size, 0, none⟩) = Value.pointer (some ⟨g', 0, none⟩) ∧ Value.int .i64 t = Value.int .i64 t ∧ Bx (w5.alloc (.cells #[.int .i64 k, .int .i64 n, .string ⟨#[]⟩, .slice A 0 c, .slice B 0 d] 25)) g' k n ∧
      Below w4.heap.size w4 (w5.alloc (.cells #[.int .i64 k, .int .i64 n, .string ⟨#[]⟩, .slice A 0 c, .slice B 0 d] 25)) :=
  ⟨_, rfl, rfl, Bx.made w5 k n A B hc hd, bthen hb (one_b _ _)⟩
theorem le_q1 {w : World} {X : Obj} : (w.alloc X).heap.size ≤ w.heap.size + 1 := by simp
theorem le_q2 {w : World} {X : Obj} : (w.alloc X).heap.size ≤ w.heap.size + 1 + 1 := by simp
theorem le_q3 {w : World} {X : Obj} : (w.alloc X).heap.size ≤ w.heap.size + 1 + 1 + 1 := by simp
theorem le_p1 {n : Nat} : n ≤ n + 1 := by omega
theorem le_p2 {n : Nat} : n ≤ n + 1 + 1 := by omega
theorem le_p3 {n : Nat} : n ≤ n + 1 + 1 + 1 := by omega
theorem RdVs.first {ok : Nat → Prop} {w : World} {A : Option Addr} {n c m e : Nat} {x : V} {l : List V} (h : RdVs ok w (.slice A n c) 0 (x :: l)) : RdVs ok w (.slice A m e) 0 [x] := by
  unfold RdVs at h ⊢
  obtain ⟨⟨g, o, v, ⟨off, nn, cc, hv, ho, hk⟩, h2, h3⟩, _⟩ := h
  injection hv with h4 _ _
  subst h4
  refine ⟨⟨g, o, v, ⟨off, m, e, rfl, ho, hk⟩, h2, h3⟩, ?_⟩
  unfold RdVs
  trivial

set_option maxRecDepth 20000 in
set_option maxHeartbeats 4000000 in
theorem law_PrimRounds_zero (a b : Int) (ha : i64ok a) (hb0 : i64ok b) (hz : b = 0) (w : World) (hl : Hid (CodeLaid w)) :
    Calls Tryz.prog 8 #[.int .i64 a, .int .i64 b] w fun e w' => e = .returned (.bool true) ∧ Below w.heap.size w w' := by
  have D13 := Lib.hid (fun A W hls hl => do13z' a b hz A 2 (newB 0) W hls (Nat.le_refl 2) (by decide) hl)
  have D14 := Lib.hid (fun A W hls hl => do14z' a b hz A 2 (newB 0) W hls (Nat.le_refl 2) (by decide) hl)
  have Ha := Lib.hid ha
  have Hb := Lib.hid hb0
  have Hz := Lib.hid hz
  clear ha hb0 hz
  go_enter Tryz.func8, Tryz.ntmps8
  go_wp2_with fail
  refine (prim_shown _ hl).mono ?_
  rintro e w1 ⟨rfl, hb1⟩
  have B1 := Lib.hid hb1
  clear hb1
  go_wp2_with fail
  refine (law_number _ _).mono ?_
  rintro e wn ⟨rfl, rfl⟩
  go_wp2_with fail
  refine (law_number _ _).mono ?_
  rintro e wn ⟨rfl, rfl⟩
  have L1 := Lib.hid (two_new ((w1.alloc (cellsV 2 a)).alloc (cellsV 2 b)) a b Ha.out Hb.out (A1 := none) (B1 := none) (A2 := none) (B2 := none) 2 2 (Nat.zero_le _) (Nat.zero_le _) (Nat.zero_le _) (Nat.zero_le _) (g := w1.heap.size + 1 + 1) (by simp))
  go_wp2_with fail
  refine (D13.out _ _ L1.out (Lib.hid (hl.out.below (bthen B1.out (three_alloc _ _ _ _))))).mono ?_
  rintro e w2 ⟨A1, c1, B1', d1, rfl, hc1, hd1, hb2⟩
  have L2 := Lib.hid (L1.out.below hb2)
  have B2 := Lib.hid (bthen (bthen B1.out (three_alloc _ _ _ _)) hb2)
  have X7 := Lib.hid (Bx.made w2 0 0 A1 B1' hc1 hd1)
  clear hb2
  go_wp2_with fail
  refine (D14.out _ _ (L2.out.below (one_b _ _)) (Lib.hid (hl.out.below (bthen B2.out (one_b _ _))))).mono ?_
  rintro e w3 ⟨A2, c2, B2', d2, rfl, hc2, hd2, hb3⟩
  have L3 := Lib.hid ((L2.out.below (one_b _ _)).below hb3)
  have B3 := Lib.hid (bthen (bthen B2.out (one_b _ _)) hb3)
  have Y7 := Lib.hid (X7.out.below hb3)
  have X9 := Lib.hid (Bx.made w3 0 0 A2 B2' hc2 hd2)
  clear hb3
  go_wp2_with fail
  refine (do11 a b _ 2 _ _ (L3.out.below (one_b _ _)) (Nat.le_refl _) (by decide) (Lib.hid (hl.out.below (bthen B3.out (one_b _ _))))).mono ?_
  rintro e w4 ⟨A3, c3, B3', d3, rfl, hc3, hd3, hb4⟩
  have L4 := Lib.hid ((L3.out.below (one_b _ _)).below hb4)
  have B4 := Lib.hid (bthen (bthen B3.out (one_b _ _)) hb4)
  have Z7 := Lib.hid ((Y7.out.below (one_b _ _)).below hb4)
  have Y9 := Lib.hid (X9.out.below hb4)
  clear hb4 X7 Y7 X9 L1 L2 L3
  go_upto_region 6 with fail
  go_cut [13, 14] (fun p13 v14 wx => ∃ g, p13 = .pointer (some ⟨g, 0, none⟩) ∧ v14 = .int .i64 0 ∧ Bx wx g 2 (wrap64 (wrap64 (a - b) + b)) ∧ Below w4.heap.size w4 wx)
  case first =>
    go_region_with (first
    | (go_at_call 25; refine (law_number _ _).mono ?_; rintro e wn ⟨rfl, rfl⟩)
    | (go_at_call 12; (with_reducible refine (do10 (wrap64 (a - b)) b _ 2 (newB 0) _ ((two_new (((w4.alloc (.cells #[.int .i64 2, .int .i64 (wrap64 (a - b)), .string ⟨#[]⟩, .slice A3 0 c3, .slice B3' 0 d3] 25)).alloc (cellsV 0 0)).alloc (cellsV 2 b)) (wrap64 (a - b)) b (i64ok_wrap _) Hb.out (A1 := A3) (B1 := B3') (c1 := c3) (d1 := d3) (A2 := none) (B2 := none) (c2 := 0) (d2 := 0) 2 2 hc3 hd3 (Nat.zero_le _) (Nat.zero_le _) (g := w4.heap.size + 1 + 1 + 1) (sz3 _ _ _ _)).below drw) (Nat.le_refl _) le2 (Lib.hid (hl.out.below (bthen B4.out (four_alloc _ _ _ _ _).drew)))).mono ?_); rintro e w5 ⟨A4, c4, B4', d4, rfl, hc4, hd4, hb5⟩; have HB5 := Lib.hid (bthen (four_alloc _ _ _ _ _).drew hb5); have HZ := Lib.hid ((((Zr.made (w4.alloc (.cells #[.int .i64 2, .int .i64 (wrap64 (a - b)), .string ⟨#[]⟩, .slice A3 0 c3, .slice B3' 0 d3] 25)) (g := w4.heap.size + 1) (by simp)).below (two_alloc _ _ _)).below drw).below hb5); obtain ⟨z0, z1, z2, z3, z4, zf⟩ := HZ.out; have f0 := zf 0; have f1 := zf 1; have f2 := zf 2; have f3 := zf 3; have f4 := zf 4; clear hb5 zf)
    | (go_at_call 12; (with_reducible refine (do10 (wrap64 (a - b)) b _ 2 (newB 0) _ ((two_new (((w4.alloc (.cells #[.int .i64 2, .int .i64 (wrap64 (a - b)), .string ⟨#[]⟩, .slice A3 0 c3, .slice B3' 0 d3] 25)).alloc (cellsV 2 b)).alloc (cellsV 0 0)) (wrap64 (a - b)) b (i64ok_wrap _) Hb.out (A1 := A3) (B1 := B3') (c1 := c3) (d1 := d3) (A2 := none) (B2 := none) (c2 := 0) (d2 := 0) 2 2 hc3 hd3 (Nat.zero_le _) (Nat.zero_le _) (g := w4.heap.size + 1 + 1 + 1) (sz3 _ _ _ _)).below drw) (Nat.le_refl _) le2 (Lib.hid (hl.out.below (bthen B4.out (four_alloc _ _ _ _ _).drew)))).mono ?_); rintro e w5 ⟨A4, c4, B4', d4, rfl, hc4, hd4, hb5⟩; have HB5 := Lib.hid (bthen (four_alloc _ _ _ _ _).drew hb5); have HZ := Lib.hid ((((Zr.made ((w4.alloc (.cells #[.int .i64 2, .int .i64 (wrap64 (a - b)), .string ⟨#[]⟩, .slice A3 0 c3, .slice B3' 0 d3] 25)).alloc (cellsV 2 b)) (g := w4.heap.size + 1 + 1) (by simp)).below (one_b _ _)).below drw).below hb5); obtain ⟨z0, z1, z2, z3, z4, zf⟩ := HZ.out; have f0 := zf 0; have f1 := zf 1; have f2 := zf 2; have f3 := zf 3; have f4 := zf 4; clear hb5 zf)
    | (go_at_call 12; (with_reducible refine (do10 (wrap64 (a - b)) b _ 2 (newB 0) _ (((two_new ((w4.alloc (.cells #[.int .i64 2, .int .i64 (wrap64 (a - b)), .string ⟨#[]⟩, .slice A3 0 c3, .slice B3' 0 d3] 25)).alloc (cellsV 2 b)) (wrap64 (a - b)) b (i64ok_wrap _) Hb.out (A1 := A3) (B1 := B3') (c1 := c3) (d1 := d3) (A2 := none) (B2 := none) (c2 := 0) (d2 := 0) 2 2 hc3 hd3 (Nat.zero_le _) (Nat.zero_le _) (g := w4.heap.size + 1 + 1) (sz2 _ _ _)).below (one_b _ (cellsV 0 0))).below drw) (Nat.le_refl _) le2 (Lib.hid (hl.out.below (bthen B4.out (four_alloc _ _ _ _ _).drew)))).mono ?_); rintro e w5 ⟨A4, c4, B4', d4, rfl, hc4, hd4, hb5⟩; have HB5 := Lib.hid (bthen (four_alloc _ _ _ _ _).drew hb5); have HZ := Lib.hid (((Zr.made (((w4.alloc (.cells #[.int .i64 2, .int .i64 (wrap64 (a - b)), .string ⟨#[]⟩, .slice A3 0 c3, .slice B3' 0 d3] 25)).alloc (cellsV 2 b)).alloc _) (g := w4.heap.size + 1 + 1 + 1) (sz3 _ _ _ _)).below drw).below hb5); obtain ⟨z0, z1, z2, z3, z4, zf⟩ := HZ.out; have f0 := zf 0; have f1 := zf 1; have f2 := zf 2; have f3 := zf 3; have f4 := zf 4; clear hb5 zf)
    | (go_at_call 12; (with_reducible refine (do10 (wrap64 (a - b)) b _ 2 (newB 0) _ ((two_new ((w4.alloc (.cells #[.int .i64 2, .int .i64 (wrap64 (a - b)), .string ⟨#[]⟩, .slice A3 0 c3, .slice B3' 0 d3] 25)).alloc (cellsV 2 b)) (wrap64 (a - b)) b (i64ok_wrap _) Hb.out (A1 := A3) (B1 := B3') (c1 := c3) (d1 := d3) (A2 := none) (B2 := none) (c2 := 0) (d2 := 0) 2 2 hc3 hd3 (Nat.zero_le _) (Nat.zero_le _) (g := w4.heap.size + 1 + 1) (sz2 _ _ _)).below drw) (Nat.le_refl _) le2 (Lib.hid (hl.out.below (bthen B4.out (three_alloc _ _ _ _).drew)))).mono ?_); rintro e w5 ⟨A4, c4, B4', d4, rfl, hc4, hd4, hb5⟩; have HB5 := Lib.hid (bthen (three_alloc _ _ _ _).drew hb5); clear hb5))
    all_goals go_wp2_with fail
    all_goals go_meet
    all_goals first
    | with_reducible exact rel_sets HZ.out hc4 hd4 le_p1 HB5.out
    | with_reducible exact rel_sets HZ.out hc4 hd4 le_p2 HB5.out
    | with_reducible exact rel_sets HZ.out hc4 hd4 le_p3 HB5.out
    | with_reducible exact rel_made hc4 hd4 HB5.out
  case rest =>
    obtain ⟨g13, rfl, rfl, hx13, hb5⟩ := hcut
    rw [rounds_sub a b Ha.out] at hx13
    have X13 := Lib.hid hx13
    have L5 := Lib.hid (L4.out.below hb5)
    have B5 := Lib.hid (bthen B4.out hb5)
    have Y7 := Lib.hid (Z7.out.below hb5)
    have Z9 := Lib.hid (Y9.out.below hb5)
    clear hx13 hb5 L4 B4 Z7 Y9
    go_wp2_with fail
    refine (do15 a _ 2 (newB 0) _ (RdVs.first L5.out) (by decide) (by decide) (Lib.hid (hl.out.below B5.out))).mono ?_
    rintro e w6 ⟨A5, c5, B5', d5, rfl, hc5, hd5, hb6⟩
    have B6 := Lib.hid (bthen B5.out hb6)
    have X7 := Lib.hid (Y7.out.below hb6)
    have X9 := Lib.hid (Z9.out.below hb6)
    have Y13 := Lib.hid (X13.out.below hb6)
    clear hb6 L5 Y7 Z9 X13
    go_wp2_with fail
    refine (do15 (wrap64 (- a)) _ 1 (newB 0) _ (one_new _ (wrap64 (- a)) (i64ok_wrap _) 1 1 hc5 hd5 (by simp)) (Nat.le_refl _) (by decide) (Lib.hid (hl.out.below (bthen B6.out (two_alloc _ _ _))))).mono ?_
    rintro e w7 ⟨A6, c6, B6', d6, rfl, hc6, hd6, hb7⟩
    rw [rounds_neg a Ha.out]
    have hs := bthen (two_alloc _ _ _) hb7
    have B7 := Lib.hid (bthen B6.out hs)
    have Z7 := Lib.hid (X7.out.below hs)
    have Y9 := Lib.hid (X9.out.below hs)
    have Z13 := Lib.hid (Y13.out.below hs)
    have X17 := Lib.hid (Bx.made w7 2 a A6 B6' hc6 hd6)
    clear hb7 hs X7 X9 Y13
    have hbz : (b == 0) = true := by simpa using Hz.out
    go_wp2_with fail
    go_ret
    exact ⟨rfl, bthen B7.out (one_b _ _)⟩
set_option maxRecDepth 20000 in
set_option maxHeartbeats 4000000 in
theorem law_PrimRounds_nz (a b : Int) (ha : i64ok a) (hb0 : i64ok b) (hz : b ≠ 0) (w : World) (hl : Hid (CodeLaid w)) :
    Calls Tryz.prog 8 #[.int .i64 a, .int .i64 b] w fun e w' => e = .returned (.bool true) ∧ Below w.heap.size w w' := by
  have D13 := Lib.hid (fun A W hls hl => do13 a b hz A 2 (newB 0) W hls (Nat.le_refl 2) (by decide) hl)
  have D14 := Lib.hid (fun A W hls hl => do14 a b ha hb0 hz A 2 (newB 0) W hls (Nat.le_refl 2) (by decide) hl)
  have Ha := Lib.hid ha
  have Hb := Lib.hid hb0
  have Hz := Lib.hid hz
  clear ha hb0 hz
  go_enter Tryz.func8, Tryz.ntmps8
  go_wp2_with fail
  refine (prim_shown _ hl).mono ?_
  rintro e w1 ⟨rfl, hb1⟩
  have B1 := Lib.hid hb1
  clear hb1
  go_wp2_with fail
  refine (law_number _ _).mono ?_
  rintro e wn ⟨rfl, rfl⟩
  go_wp2_with fail
  refine (law_number _ _).mono ?_
  rintro e wn ⟨rfl, rfl⟩
  have L1 := Lib.hid (two_new ((w1.alloc (cellsV 2 a)).alloc (cellsV 2 b)) a b Ha.out Hb.out (A1 := none) (B1 := none) (A2 := none) (B2 := none) 2 2 (Nat.zero_le _) (Nat.zero_le _) (Nat.zero_le _) (Nat.zero_le _) (g := w1.heap.size + 1 + 1) (by simp))
  go_wp2_with fail
  refine (D13.out _ _ L1.out (Lib.hid (hl.out.below (bthen B1.out (three_alloc _ _ _ _))))).mono ?_
  rintro e w2 ⟨A1, c1, B1', d1, rfl, hc1, hd1, hb2⟩
  have L2 := Lib.hid (L1.out.below hb2)
  have B2 := Lib.hid (bthen (bthen B1.out (three_alloc _ _ _ _)) hb2)
  have X7 := Lib.hid (Bx.made w2 2 (wrap64 (a.tdiv b)) A1 B1' hc1 hd1)
  clear hb2
  go_wp2_with fail
  refine (D14.out _ _ (L2.out.below (one_b _ _)) (Lib.hid (hl.out.below (bthen B2.out (one_b _ _))))).mono ?_
  rintro e w3 ⟨A2, c2, B2', d2, rfl, hc2, hd2, hb3⟩
  have L3 := Lib.hid ((L2.out.below (one_b _ _)).below hb3)
  have B3 := Lib.hid (bthen (bthen B2.out (one_b _ _)) hb3)
  have Y7 := Lib.hid (X7.out.below hb3)
  have X9 := Lib.hid (Bx.made w3 2 (a.tmod b) A2 B2' hc2 hd2)
  clear hb3
  go_wp2_with fail
  refine (do11 a b _ 2 _ _ (L3.out.below (one_b _ _)) (Nat.le_refl _) (by decide) (Lib.hid (hl.out.below (bthen B3.out (one_b _ _))))).mono ?_
  rintro e w4 ⟨A3, c3, B3', d3, rfl, hc3, hd3, hb4⟩
  have L4 := Lib.hid ((L3.out.below (one_b _ _)).below hb4)
  have B4 := Lib.hid (bthen (bthen B3.out (one_b _ _)) hb4)
  have Z7 := Lib.hid ((Y7.out.below (one_b _ _)).below hb4)
  have Y9 := Lib.hid (X9.out.below hb4)
  clear hb4 X7 Y7 X9 L1 L2 L3
  go_upto_region 6 with fail
  go_cut [13, 14] (fun p13 v14 wx => ∃ g, p13 = .pointer (some ⟨g, 0, none⟩) ∧ v14 = .int .i64 0 ∧ Bx wx g 2 (wrap64 (wrap64 (a - b) + b)) ∧ Below w4.heap.size w4 wx)
  case first =>
    go_region_with (first
    | (go_at_call 25; refine (law_number _ _).mono ?_; rintro e wn ⟨rfl, rfl⟩)
    | (go_at_call 12; (with_reducible refine (do10 (wrap64 (a - b)) b _ 2 (newB 0) _ ((two_new (((w4.alloc (.cells #[.int .i64 2, .int .i64 (wrap64 (a - b)), .string ⟨#[]⟩, .slice A3 0 c3, .slice B3' 0 d3] 25)).alloc (cellsV 0 0)).alloc (cellsV 2 b)) (wrap64 (a - b)) b (i64ok_wrap _) Hb.out (A1 := A3) (B1 := B3') (c1 := c3) (d1 := d3) (A2 := none) (B2 := none) (c2 := 0) (d2 := 0) 2 2 hc3 hd3 (Nat.zero_le _) (Nat.zero_le _) (g := w4.heap.size + 1 + 1 + 1) (sz3 _ _ _ _)).below drw) (Nat.le_refl _) le2 (Lib.hid (hl.out.below (bthen B4.out (four_alloc _ _ _ _ _).drew)))).mono ?_); rintro e w5 ⟨A4, c4, B4', d4, rfl, hc4, hd4, hb5⟩; have HB5 := Lib.hid (bthen (four_alloc _ _ _ _ _).drew hb5); have HZ := Lib.hid ((((Zr.made (w4.alloc (.cells #[.int .i64 2, .int .i64 (wrap64 (a - b)), .string ⟨#[]⟩, .slice A3 0 c3, .slice B3' 0 d3] 25)) (g := w4.heap.size + 1) (by simp)).below (two_alloc _ _ _)).below drw).below hb5); obtain ⟨z0, z1, z2, z3, z4, zf⟩ := HZ.out; have f0 := zf 0; have f1 := zf 1; have f2 := zf 2; have f3 := zf 3; have f4 := zf 4; clear hb5 zf)
    | (go_at_call 12; (with_reducible refine (do10 (wrap64 (a - b)) b _ 2 (newB 0) _ ((two_new (((w4.alloc (.cells #[.int .i64 2, .int .i64 (wrap64 (a - b)), .string ⟨#[]⟩, .slice A3 0 c3, .slice B3' 0 d3] 25)).alloc (cellsV 2 b)).alloc (cellsV 0 0)) (wrap64 (a - b)) b (i64ok_wrap _) Hb.out (A1 := A3) (B1 := B3') (c1 := c3) (d1 := d3) (A2 := none) (B2 := none) (c2 := 0) (d2 := 0) 2 2 hc3 hd3 (Nat.zero_le _) (Nat.zero_le _) (g := w4.heap.size + 1 + 1 + 1) (sz3 _ _ _ _)).below drw) (Nat.le_refl _) le2 (Lib.hid (hl.out.below (bthen B4.out (four_alloc _ _ _ _ _).drew)))).mono ?_); rintro e w5 ⟨A4, c4, B4', d4, rfl, hc4, hd4, hb5⟩; have HB5 := Lib.hid (bthen (four_alloc _ _ _ _ _).drew hb5); have HZ := Lib.hid ((((Zr.made ((w4.alloc (.cells #[.int .i64 2, .int .i64 (wrap64 (a - b)), .string ⟨#[]⟩, .slice A3 0 c3, .slice B3' 0 d3] 25)).alloc (cellsV 2 b)) (g := w4.heap.size + 1 + 1) (by simp)).below (one_b _ _)).below drw).below hb5); obtain ⟨z0, z1, z2, z3, z4, zf⟩ := HZ.out; have f0 := zf 0; have f1 := zf 1; have f2 := zf 2; have f3 := zf 3; have f4 := zf 4; clear hb5 zf)
    | (go_at_call 12; (with_reducible refine (do10 (wrap64 (a - b)) b _ 2 (newB 0) _ (((two_new ((w4.alloc (.cells #[.int .i64 2, .int .i64 (wrap64 (a - b)), .string ⟨#[]⟩, .slice A3 0 c3, .slice B3' 0 d3] 25)).alloc (cellsV 2 b)) (wrap64 (a - b)) b (i64ok_wrap _) Hb.out (A1 := A3) (B1 := B3') (c1 := c3) (d1 := d3) (A2 := none) (B2 := none) (c2 := 0) (d2 := 0) 2 2 hc3 hd3 (Nat.zero_le _) (Nat.zero_le _) (g := w4.heap.size + 1 + 1) (sz2 _ _ _)).below (one_b _ (cellsV 0 0))).below drw) (Nat.le_refl _) le2 (Lib.hid (hl.out.below (bthen B4.out (four_alloc _ _ _ _ _).drew)))).mono ?_); rintro e w5 ⟨A4, c4, B4', d4, rfl, hc4, hd4, hb5⟩; have HB5 := Lib.hid (bthen (four_alloc _ _ _ _ _).drew hb5); have HZ := Lib.hid (((Zr.made (((w4.alloc (.cells #[.int .i64 2, .int .i64 (wrap64 (a - b)), .string ⟨#[]⟩, .slice A3 0 c3, .slice B3' 0 d3] 25)).alloc (cellsV 2 b)).alloc _) (g := w4.heap.size + 1 + 1 + 1) (sz3 _ _ _ _)).below drw).below hb5); obtain ⟨z0, z1, z2, z3, z4, zf⟩ := HZ.out; have f0 := zf 0; have f1 := zf 1; have f2 := zf 2; have f3 := zf 3; have f4 := zf 4; clear hb5 zf)
    | (go_at_call 12; (with_reducible refine (do10 (wrap64 (a - b)) b _ 2 (newB 0) _ ((two_new ((w4.alloc (.cells #[.int .i64 2, .int .i64 (wrap64 (a - b)), .string ⟨#[]⟩, .slice A3 0 c3, .slice B3' 0 d3] 25)).alloc (cellsV 2 b)) (wrap64 (a - b)) b (i64ok_wrap _) Hb.out (A1 := A3) (B1 := B3') (c1 := c3) (d1 := d3) (A2 := none) (B2 := none) (c2 := 0) (d2 := 0) 2 2 hc3 hd3 (Nat.zero_le _) (Nat.zero_le _) (g := w4.heap.size + 1 + 1) (sz2 _ _ _)).below drw) (Nat.le_refl _) le2 (Lib.hid (hl.out.below (bthen B4.out (three_alloc _ _ _ _).drew)))).mono ?_); rintro e w5 ⟨A4, c4, B4', d4, rfl, hc4, hd4, hb5⟩; have HB5 := Lib.hid (bthen (three_alloc _ _ _ _).drew hb5); clear hb5))
    all_goals go_wp2_with fail
    all_goals go_meet
    all_goals first
    | with_reducible exact rel_sets HZ.out hc4 hd4 le_p1 HB5.out
    | with_reducible exact rel_sets HZ.out hc4 hd4 le_p2 HB5.out
    | with_reducible exact rel_sets HZ.out hc4 hd4 le_p3 HB5.out
    | with_reducible exact rel_made hc4 hd4 HB5.out
  case rest =>
    obtain ⟨g13, rfl, rfl, hx13, hb5⟩ := hcut
    rw [rounds_sub a b Ha.out] at hx13
    have X13 := Lib.hid hx13
    have L5 := Lib.hid (L4.out.below hb5)
    have B5 := Lib.hid (bthen B4.out hb5)
    have Y7 := Lib.hid (Z7.out.below hb5)
    have Z9 := Lib.hid (Y9.out.below hb5)
    clear hx13 hb5 L4 B4 Z7 Y9
    go_wp2_with fail
    refine (do15 a _ 2 (newB 0) _ (RdVs.first L5.out) (by decide) (by decide) (Lib.hid (hl.out.below B5.out))).mono ?_
    rintro e w6 ⟨A5, c5, B5', d5, rfl, hc5, hd5, hb6⟩
    have B6 := Lib.hid (bthen B5.out hb6)
    have X7 := Lib.hid (Y7.out.below hb6)
    have X9 := Lib.hid (Z9.out.below hb6)
    have Y13 := Lib.hid (X13.out.below hb6)
    clear hb6 L5 Y7 Z9 X13
    go_wp2_with fail
    refine (do15 (wrap64 (- a)) _ 1 (newB 0) _ (one_new _ (wrap64 (- a)) (i64ok_wrap _) 1 1 hc5 hd5 (by simp)) (Nat.le_refl _) (by decide) (Lib.hid (hl.out.below (bthen B6.out (two_alloc _ _ _))))).mono ?_
    rintro e w7 ⟨A6, c6, B6', d6, rfl, hc6, hd6, hb7⟩
    rw [rounds_neg a Ha.out]
    have hs := bthen (two_alloc _ _ _) hb7
    have B7 := Lib.hid (bthen B6.out hs)
    have Z7 := Lib.hid (X7.out.below hs)
    have Y9 := Lib.hid (X9.out.below hs)
    have Z13 := Lib.hid (Y13.out.below hs)
    have X17 := Lib.hid (Bx.made w7 2 a A6 B6' hc6 hd6)
    clear hb7 hs X7 X9 Y13
    have hbz : (b == 0) = false := by simpa using Hz.out
    obtain ⟨A7, c7, B7', d7, hc7, hd7, q0, q1, q2, q3, q4⟩ := Z7.out
    have p0 := fun X => bcell (one_b w7 X) q0
    have p1 := fun X => bcell (one_b w7 X) q1
    have p2 := fun X => bcell (one_b w7 X) q2
    have p3 := fun X => bcell (one_b w7 X) q3
    have p4 := fun X => bcell (one_b w7 X) q4
    have r0 := fun X Y => bcell (two_alloc w7 X Y) q0
    have r1 := fun X Y => bcell (two_alloc w7 X Y) q1
    have r2 := fun X Y => bcell (two_alloc w7 X Y) q2
    have r3 := fun X Y => bcell (two_alloc w7 X Y) q3
    have r4 := fun X Y => bcell (two_alloc w7 X Y) q4
    have s0 := fun X Y Z => bcell (three_alloc w7 X Y Z) q0
    have s1 := fun X Y Z => bcell (three_alloc w7 X Y Z) q1
    have s2 := fun X Y Z => bcell (three_alloc w7 X Y Z) q2
    have s3 := fun X Y Z => bcell (three_alloc w7 X Y Z) q3
    have s4 := fun X Y Z => bcell (three_alloc w7 X Y Z) q4
    clear q0 q1 q2 q3 q4 Z7
    go_upto_region 11 with fail
    go_cut [19, 20] (fun p19 v20 wx => ∃ g, p19 = .pointer (some ⟨g, 0, none⟩) ∧ v20 = .int .i64 0 ∧ Bx wx g 2 (wrap64 (wrap64 (a.tdiv b) * b)) ∧ Below (w7.alloc (.cells #[.int .i64 2, .int .i64 a, .string ⟨#[]⟩, .slice A6 0 c6, .slice B6' 0 d6] 25)).heap.size (w7.alloc (.cells #[.int .i64 2, .int .i64 a, .string ⟨#[]⟩, .slice A6 0 c6, .slice B6' 0 d6] 25)) wx)
    case first =>
      go_region_with (first
    | (go_at_call 25; refine (law_number _ _).mono ?_; rintro e wn ⟨rfl, rfl⟩)
    | (go_at_call 12; (with_reducible refine (do12 (wrap64 (a.tdiv b)) b _ 2 (newB 0) _ ((two_new (((w7.alloc (.cells #[.int .i64 2, .int .i64 a, .string ⟨#[]⟩, .slice A6 0 c6, .slice B6' 0 d6] 25)).alloc (cellsV 0 0)).alloc (cellsV 2 b)) (wrap64 (a.tdiv b)) b (i64ok_wrap _) Hb.out (A1 := A7) (B1 := B7') (c1 := c7) (d1 := d7) (A2 := none) (B2 := none) (c2 := 0) (d2 := 0) 2 2 hc7 hd7 (Nat.zero_le _) (Nat.zero_le _) (g := w7.heap.size + 1 + 1 + 1) (sz3 _ _ _ _)).below drw) (Nat.le_refl _) le2 (Lib.hid (hl.out.below (bthen B7.out (four_alloc _ _ _ _ _).drew)))).mono ?_); rintro e w5 ⟨A4, c4, B4', d4, rfl, hc4, hd4, hb5⟩; have HB5 := Lib.hid (bthen (three_alloc _ _ _ _).drew hb5); have HZ := Lib.hid ((((Zr.made (w7.alloc (.cells #[.int .i64 2, .int .i64 a, .string ⟨#[]⟩, .slice A6 0 c6, .slice B6' 0 d6] 25)) (g := w7.heap.size + 1) (by simp)).below (two_alloc _ _ _)).below drw).below hb5); obtain ⟨z0, z1, z2, z3, z4, zf⟩ := HZ.out; have f0 := zf 0; have f1 := zf 1; have f2 := zf 2; have f3 := zf 3; have f4 := zf 4; clear hb5 zf)
    | (go_at_call 12; (with_reducible refine (do12 (wrap64 (a.tdiv b)) b _ 2 (newB 0) _ ((two_new (((w7.alloc (.cells #[.int .i64 2, .int .i64 a, .string ⟨#[]⟩, .slice A6 0 c6, .slice B6' 0 d6] 25)).alloc (cellsV 2 b)).alloc (cellsV 0 0)) (wrap64 (a.tdiv b)) b (i64ok_wrap _) Hb.out (A1 := A7) (B1 := B7') (c1 := c7) (d1 := d7) (A2 := none) (B2 := none) (c2 := 0) (d2 := 0) 2 2 hc7 hd7 (Nat.zero_le _) (Nat.zero_le _) (g := w7.heap.size + 1 + 1 + 1) (sz3 _ _ _ _)).below drw) (Nat.le_refl _) le2 (Lib.hid (hl.out.below (bthen B7.out (four_alloc _ _ _ _ _).drew)))).mono ?_); rintro e w5 ⟨A4, c4, B4', d4, rfl, hc4, hd4, hb5⟩; have HB5 := Lib.hid (bthen (three_alloc _ _ _ _).drew hb5); have HZ := Lib.hid ((((Zr.made ((w7.alloc (.cells #[.int .i64 2, .int .i64 a, .string ⟨#[]⟩, .slice A6 0 c6, .slice B6' 0 d6] 25)).alloc (cellsV 2 b)) (g := w7.heap.size + 1 + 1) (by simp)).below (one_b _ _)).below drw).below hb5); obtain ⟨z0, z1, z2, z3, z4, zf⟩ := HZ.out; have f0 := zf 0; have f1 := zf 1; have f2 := zf 2; have f3 := zf 3; have f4 := zf 4; clear hb5 zf)
    | (go_at_call 12; (with_reducible refine (do12 (wrap64 (a.tdiv b)) b _ 2 (newB 0) _ (((two_new ((w7.alloc (.cells #[.int .i64 2, .int .i64 a, .string ⟨#[]⟩, .slice A6 0 c6, .slice B6' 0 d6] 25)).alloc (cellsV 2 b)) (wrap64 (a.tdiv b)) b (i64ok_wrap _) Hb.out (A1 := A7) (B1 := B7') (c1 := c7) (d1 := d7) (A2 := none) (B2 := none) (c2 := 0) (d2 := 0) 2 2 hc7 hd7 (Nat.zero_le _) (Nat.zero_le _) (g := w7.heap.size + 1 + 1) (sz2 _ _ _)).below (one_b _ (cellsV 0 0))).below drw) (Nat.le_refl _) le2 (Lib.hid (hl.out.below (bthen B7.out (four_alloc _ _ _ _ _).drew)))).mono ?_); rintro e w5 ⟨A4, c4, B4', d4, rfl, hc4, hd4, hb5⟩; have HB5 := Lib.hid (bthen (three_alloc _ _ _ _).drew hb5); have HZ := Lib.hid (((Zr.made (((w7.alloc (.cells #[.int .i64 2, .int .i64 a, .string ⟨#[]⟩, .slice A6 0 c6, .slice B6' 0 d6] 25)).alloc (cellsV 2 b)).alloc _) (g := w7.heap.size + 1 + 1 + 1) (sz3 _ _ _ _)).below drw).below hb5); obtain ⟨z0, z1, z2, z3, z4, zf⟩ := HZ.out; have f0 := zf 0; have f1 := zf 1; have f2 := zf 2; have f3 := zf 3; have f4 := zf 4; clear hb5 zf)
    | (go_at_call 12; (with_reducible refine (do12 (wrap64 (a.tdiv b)) b _ 2 (newB 0) _ ((two_new ((w7.alloc (.cells #[.int .i64 2, .int .i64 a, .string ⟨#[]⟩, .slice A6 0 c6, .slice B6' 0 d6] 25)).alloc (cellsV 2 b)) (wrap64 (a.tdiv b)) b (i64ok_wrap _) Hb.out (A1 := A7) (B1 := B7') (c1 := c7) (d1 := d7) (A2 := none) (B2 := none) (c2 := 0) (d2 := 0) 2 2 hc7 hd7 (Nat.zero_le _) (Nat.zero_le _) (g := w7.heap.size + 1 + 1) (sz2 _ _ _)).below drw) (Nat.le_refl _) le2 (Lib.hid (hl.out.below (bthen B7.out (three_alloc _ _ _ _).drew)))).mono ?_); rintro e w5 ⟨A4, c4, B4', d4, rfl, hc4, hd4, hb5⟩; have HB5 := Lib.hid (bthen (two_alloc _ _ _).drew hb5); clear hb5))
      all_goals go_wp2_with fail
      all_goals go_meet
      all_goals first
      | with_reducible exact rel_sets HZ.out hc4 hd4 le_q1 HB5.out
      | with_reducible exact rel_sets HZ.out hc4 hd4 le_q2 HB5.out
      | with_reducible exact rel_sets HZ.out hc4 hd4 le_q3 HB5.out
      | with_reducible exact rel_made hc4 hd4 HB5.out
    case rest =>
      obtain ⟨g19, rfl, rfl, hx19, hb8⟩ := hcut
      clear p0 p1 p2 p3 p4 r0 r1 r2 r3 r4 s0 s1 s2 s3 s4
      have B8 := Lib.hid (bthen B7.out (bthen (one_b _ _) hb8))
      have Z9 := Lib.hid (Y9.out.below (bthen (one_b _ _) hb8))
      have X13 := Lib.hid (Z13.out.below (bthen (one_b _ _) hb8))
      have Y17 := Lib.hid (X17.out.below hb8)
      clear Y9 Z13 X17 hb8
      obtain ⟨A8, c8, B8', d8, hc8, hd8, t0, t1, t2, t3, t4⟩ := hx19
      obtain ⟨A9, c9, B9', d9, hc9, hd9, v0, v1, v2, v3, v4⟩ := Z9.out
      go_wp2_with fail
      refine (do10 (wrap64 (wrap64 (a.tdiv b) * b)) (a.tmod b) _ 2 (newB 0) _ (two_new _ _ _ (i64ok_wrap _) (i64ok_tmod Ha.out Hb.out Hz.out) 2 2 hc8 hd8 hc9 hd9 rfl) (Nat.le_refl _) (by decide) (Lib.hid (hl.out.below (bthen B8.out (one_b _ _))))).mono ?_
      rintro e w9 ⟨A10, c10, B10', d10, rfl, hc10, hd10, hb9⟩
      rw [rounds_div a b Ha.out]
      have hs := bthen (one_b _ _) hb9
      have B9 := Lib.hid (bthen B8.out hs)
      obtain ⟨_, _, _, _, _, _, _, m1, _⟩ := Z9.out.below hs
      obtain ⟨_, _, _, _, _, _, _, m2, _⟩ := X13.out.below hs
      obtain ⟨_, _, _, _, _, _, _, m3, _⟩ := Y17.out.below hs
      have n1 := fun X => bcell (one_b w9 X) m1
      have n2 := fun X => bcell (one_b w9 X) m2
      have n3 := fun X => bcell (one_b w9 X) m3
      clear hb9 hs m1 m2 m3 t0 t1 t2 t3 t4 v0 v1 v2 v3 v4 Z9 X13 Y17
      have haa : (a == a) = true := by simp
      have key : (a.tmod b == 0) = true ∨ ((a.tmod b == 0) = false ∧ (decide (a.tmod b < 0) == decide (a < 0)) = true) := by
        by_cases h0 : a.tmod b = 0
        · left; simpa using h0
        · right
          refine ⟨by simpa using h0, ?_⟩
          rcases rounds_sign a b with h1 | h1
          · exact absurd h1 h0
          · simp [h1]
      rcases key with k0 | ⟨k0, k1⟩
      · go_wp2_with fail
        go_ret
        exact ⟨rfl, bthen B9.out (one_b _ _)⟩
      · go_wp2_with fail
        go_ret
        exact ⟨rfl, bthen B9.out (one_b _ _)⟩
theorem law_PrimRounds (a b : Int) (ha : i64ok a) (hb0 : i64ok b) (w : World) (hl : Hid (CodeLaid w)) :
    Calls Tryz.prog 8 #[.int .i64 a, .int .i64 b] w fun e w' => e = .returned (.bool true) ∧ Below w.heap.size w w' := by
  by_cases hz : b = 0
  · exact law_PrimRounds_zero a b ha hb0 hz w hl
  · exact law_PrimRounds_nz a b ha hb0 hz w hl
end Go.Proofs.YtacaknkfddlklaaGreatDoor
