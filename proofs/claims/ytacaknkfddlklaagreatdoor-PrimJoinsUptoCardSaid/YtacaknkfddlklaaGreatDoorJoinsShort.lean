/- PrimJoins, walked where nothing is put together. Printed by gen_joins.py. -/
import Derived.Test.YtacaknkfddlklaaGreatDoorJoinsDo
import Derived.Test.YtacaknkfddlklaaGreatDoorSame
import Derived.Test.YtacaknkfddlklaaGreatDoorPrimShown
set_option linter.unusedVariables false
set_option linter.unusedSimpArgs false
namespace Go.Proofs.YtacaknkfddlklaaGreatDoor
open Go.RowKit Go.IntWalk

abbrev anyB : Nat → Prop := fun _ => True
theorem numb_rd {ok : Nat → Prop} {w : World} {z : Int} (hz : i64ok z) {A B : Option Addr} {c d : Nat} (hc : c ≤ 9223372036854775807) (hd : d ≤ 9223372036854775807) : RdV ok w (aggK 2 z A c B d) (numb z) :=
  RdV.close (s := []) (i64ok_small (by decide) (by decide)) hz (by simp) ⟨A, c, rfl, by simp, hc, by simp⟩ (by unfold RdVs; trivial) (RdK.nil _ _ _ _ hd)
theorem list1 {W : World} {g : Nat} (hg : g = W.heap.size) {ok1 : Nat → Prop} {a0 a1 a2 a3 a4 : Value} {X : V} (hX : RdV ok1 W (.agg #[a0, a1, a2, a3, a4]) X) :
    RdVs anyB (W.alloc (.cells #[a0, a1, a2, a3, a4] 25)) (.slice (some ⟨g, 0, none⟩) 1 1) 0 [X] := by
  subst hg
  exact RdVs.own (OwnR.lit 25 5 anyB W #[a0, a1, a2, a3, a4] 1 rfl (by decide) trivial) (((Elems.nil anyB W).cons (hX.imp fun _ _ => trivial)).below (one_b W _))
theorem list2 {W : World} {g : Nat} (hg : g = W.heap.size) {ok1 ok2 : Nat → Prop} {a0 a1 a2 a3 a4 b0 b1 b2 b3 b4 : Value} {X Y : V} (hX : RdV ok1 W (.agg #[a0, a1, a2, a3, a4]) X) (hY : RdV ok2 W (.agg #[b0, b1, b2, b3, b4]) Y) :
    RdVs anyB (W.alloc (.cells #[a0, a1, a2, a3, a4, b0, b1, b2, b3, b4] 25)) (.slice (some ⟨g, 0, none⟩) 2 2) 0 [X, Y] := by
  subst hg
  exact RdVs.own (OwnR.lit 25 5 anyB W #[a0, a1, a2, a3, a4, b0, b1, b2, b3, b4] 2 rfl (by decide) trivial) ((((Elems.nil anyB W).cons (hY.imp fun _ _ => trivial)).cons (hX.imp fun _ _ => trivial)).below (one_b W _))
theorem list3 {W : World} {g : Nat} (hg : g = W.heap.size) {ok1 ok2 ok3 : Nat → Prop} {a0 a1 a2 a3 a4 b0 b1 b2 b3 b4 c0 c1 c2 c3 c4 : Value} {X Y Z : V} (hX : RdV ok1 W (.agg #[a0, a1, a2, a3, a4]) X) (hY : RdV ok2 W (.agg #[b0, b1, b2, b3, b4]) Y) (hZ : RdV ok3 W (.agg #[c0, c1, c2, c3, c4]) Z) :
    RdVs anyB (W.alloc (.cells #[a0, a1, a2, a3, a4, b0, b1, b2, b3, b4, c0, c1, c2, c3, c4] 25)) (.slice (some ⟨g, 0, none⟩) 3 3) 0 [X, Y, Z] := by
  subst hg
  exact RdVs.own (OwnR.lit 25 5 anyB W #[a0, a1, a2, a3, a4, b0, b1, b2, b3, b4, c0, c1, c2, c3, c4] 3 rfl (by decide) trivial) (((((Elems.nil anyB W).cons (hZ.imp fun _ _ => trivial)).cons (hY.imp fun _ _ => trivial)).cons (hX.imp fun _ _ => trivial)).below (one_b W _))
/-- a box that holds a value -/
def BxV (w : World) (g : Nat) (X : V) : Prop := ∃ A c B d, Five w g 0 (valV X A c B d) ∧ RdV anyB w (valV X A c B d) X
theorem BxV.below {w w1 : World} {g : Nat} {X : V} (h : BxV w g X) (hb : Below w.heap.size w w1) : BxV w1 g X := by
  obtain ⟨A, c, B, d, h1, h2⟩ := h
  exact ⟨A, c, B, d, h1.below hb, h2.below hb⟩
/-- a box that holds the zero value, to be written -/
def Zr (w : World) (g : Nat) : Prop := w.cell? ⟨g, 0, none⟩ = some (.int .i64 0) ∧ w.cell? ⟨g, 1, none⟩ = some (.int .i64 0) ∧ w.cell? ⟨g, 2, none⟩ = some (.string ⟨#[]⟩) ∧ w.cell? ⟨g, 3, none⟩ = some (.slice none 0 0) ∧ w.cell? ⟨g, 4, none⟩ = some (.slice none 0 0) ∧ ∀ i, w.frozen? ⟨g, i, none⟩ = false
theorem Zr.made (w : World) {g : Nat} (hg : g = w.heap.size) : Zr (w.alloc (cellsV 0 0)) g := by
  subst hg
  exact ⟨World.cell?_alloc_at _ _ _ _ rfl, World.cell?_alloc_at _ _ _ _ rfl, World.cell?_alloc_at _ _ _ _ rfl, World.cell?_alloc_at _ _ _ _ rfl, World.cell?_alloc_at _ _ _ _ rfl, fun i => World.frozen?_alloc_at _ _ _ _ rfl⟩
theorem Zr.below {w w1 : World} {g : Nat} (h : Zr w g) (hb : Below w.heap.size w w1) : Zr w1 g := by
  obtain ⟨h0, h1, h2, h3, h4, hf⟩ := h
  exact ⟨bcell hb h0, bcell hb h1, bcell hb h2, bcell hb h3, bcell hb h4, frozen_below hb (lt_of_cell h0) hf⟩
theorem relV_sets {w4 w5 : World} {g n : Nat} {t : Int} {X : V} {A B : Option Addr} {c d : Nat} (h : Zr w5 g) (hg : w4.heap.size ≤ g) (hgn : g < n) (hv : RdV (newB n) w5 (valV X A c B d) X) (hb : Below w4.heap.size w4 w5) :
    ∃ g', Value.pointer (some ⟨g, 0, none⟩) = Value.pointer (some ⟨g', 0, none⟩) ∧ Value.int .i64 t = Value.int .i64 t ∧ BxV (((((w5.setCell ⟨g, 0, none⟩ (.int .i64 X.kind)).setCell ⟨g, 1, none⟩ (.int .i64 X.num)).setCell ⟨g, 2, none⟩ (.string ⟨X.str.toArray⟩)).setCell ⟨g, 3, none⟩ (.slice A X.parts.length c)).setCell ⟨g, 4, none⟩ (.slice B X.keys.length d)) g' X ∧
      Below w4.heap.size w4 (((((w5.setCell ⟨g, 0, none⟩ (.int .i64 X.kind)).setCell ⟨g, 1, none⟩ (.int .i64 X.num)).setCell ⟨g, 2, none⟩ (.string ⟨X.str.toArray⟩)).setCell ⟨g, 3, none⟩ (.slice A X.parts.length c)).setCell ⟨g, 4, none⟩ (.slice B X.keys.length d)) := by
  obtain ⟨h0, h1, h2, h3, h4, hf⟩ := h
  have hfr := ((((((Fr.refl (fun b => b = g) w5).setCell (p := ⟨g, 0, none⟩) rfl (.int .i64 X.kind)).setCell (p := ⟨g, 1, none⟩) rfl (.int .i64 X.num)).setCell (p := ⟨g, 2, none⟩) rfl (.string ⟨X.str.toArray⟩)).setCell (p := ⟨g, 3, none⟩) rfl (.slice A X.parts.length c)).setCell (p := ⟨g, 4, none⟩) rfl (.slice B X.keys.length d))
  refine ⟨g, rfl, rfl, ⟨A, c, B, d, ⟨_, _, _, _, _, rfl, ?_, ?_, ?_, ?_, ?_⟩, (hv.fr hfr fun b _ hb e => by simp only [newB] at hb; omega).imp fun _ _ => trivial⟩, five_sets hb hg _ _ _ _ _ _ _ _ _ _⟩
  · rw [sc_other (by omega), sc_other (by omega), sc_other (by omega), sc_other (by omega)]; exact sc_same h0
  · rw [sc_other (by omega), sc_other (by omega), sc_other (by omega)]; exact sc_same (u := .int .i64 0) (by rw [sc_other (by omega)]; exact h1)
  · rw [sc_other (by omega), sc_other (by omega)]; exact sc_same (u := .string ⟨#[]⟩) (by rw [sc_other (by omega), sc_other (by omega)]; exact h2)
  · rw [sc_other (by omega)]; exact sc_same (u := .slice none 0 0) (by rw [sc_other (by omega), sc_other (by omega), sc_other (by omega)]; exact h3)
  · exact sc_same (u := .slice none 0 0) (by rw [sc_other (by omega), sc_other (by omega), sc_other (by omega), sc_other (by omega)]; exact h4)
theorem relV_made {w4 w5 : World} {n : Nat} {t : Int} {X : V} {A B : Option Addr} {c d : Nat} (hv : RdV (newB n) w5 (valV X A c B d) X) (hb : Below w4.heap.size w4 w5) :
    ∃ g', Value.pointer (some ⟨w5.heap.size, 0, none⟩) = Value.pointer (some ⟨g', 0, none⟩) ∧ Value.int .i64 t = Value.int .i64 t ∧ BxV (w5.alloc (.cells #[.int .i64 X.kind, .int .i64 X.num, .string ⟨X.str.toArray⟩, .slice A X.parts.length c, .slice B X.keys.length d] 25)) g' X ∧
      Below w4.heap.size w4 (w5.alloc (.cells #[.int .i64 X.kind, .int .i64 X.num, .string ⟨X.str.toArray⟩, .slice A X.parts.length c, .slice B X.keys.length d] 25)) :=
  ⟨_, rfl, rfl, ⟨A, c, B, d, Five.new w5 _ _ _ _ _ _ rfl, (hv.below (one_b _ _)).imp fun _ _ => trivial⟩, bthen hb (one_b _ _)⟩
theorem sz2 (w : World) (X Y : Obj) : w.heap.size + 1 + 1 = ((w.alloc X).alloc Y).heap.size := by simp
theorem sz3 (w : World) (X Y Z : Obj) : w.heap.size + 1 + 1 + 1 = (((w.alloc X).alloc Y).alloc Z).heap.size := by simp
theorem le_q1 {w : World} {X : Obj} : (w.alloc X).heap.size ≤ w.heap.size + 1 := by simp
theorem le_q2 {w : World} {X : Obj} : (w.alloc X).heap.size ≤ w.heap.size + 1 + 1 := by simp
theorem le_q3 {w : World} {X : Obj} : (w.alloc X).heap.size ≤ w.heap.size + 1 + 1 + 1 := by simp
theorem lt_q1 {w : World} {X Y Z U : Obj} : w.heap.size + 1 < ((((w.alloc X).alloc Y).alloc Z).alloc U).drew.heap.size := by first | (simp; done) | (simp; omega)
theorem lt_q2 {w : World} {X Y Z U : Obj} : w.heap.size + 1 + 1 < ((((w.alloc X).alloc Y).alloc Z).alloc U).drew.heap.size := by first | (simp; done) | (simp; omega)
theorem lt_q3 {w : World} {X Y Z U : Obj} : w.heap.size + 1 + 1 + 1 < ((((w.alloc X).alloc Y).alloc Z).alloc U).drew.heap.size := by first | (simp; done) | (simp; omega)

set_option maxRecDepth 20000 in
set_option maxHeartbeats 4000000 in
theorem law_joins_short (a b R : V) (t : Int) (hs : t ≠ 0 ∨ R.kind = 2) (va vb : Value) (oka okb : Nat → Prop) (w : World) (hva : RdV oka w va a) (hvb : RdV okb w vb b) (hl : Hid (CodeLaid w))
    (HD1 : Hid (∀ A W, RdVs anyB W (.slice A 2 2) 0 [a, b] → Hid (CodeLaid W) → Calls Tryz.prog 12 #[.int .i64 10, aggV 0 0, .slice A 2 2] W (AnsPost W R t))) :
    Calls Tryz.prog 7 #[va, vb] w fun e w' => e = .returned (.bool true) ∧ Below w.heap.size w w' := by
  obtain ⟨Aa, ca, Ba, da, rfl, _⟩ := hva.form
  obtain ⟨Ab, cb, Bb, db, rfl, _⟩ := hvb.form
  have Hva := Lib.hid hva
  have Hvb := Lib.hid hvb
  have HB := Lib.hid (two_boxes w (.int .i64 a.kind) (.int .i64 a.num) (.string ⟨a.str.toArray⟩) (.slice Aa a.parts.length ca) (.slice Ba a.keys.length da) (.int .i64 b.kind) (.int .i64 b.num) (.string ⟨b.str.toArray⟩) (.slice Ab b.parts.length cb) (.slice Bb b.keys.length db))
  have HW := Lib.hid (two_alloc w (.cells #[.int .i64 a.kind, .int .i64 a.num, .string ⟨a.str.toArray⟩, .slice Aa a.parts.length ca, .slice Ba a.keys.length da] 25) (.cells #[.int .i64 b.kind, .int .i64 b.num, .string ⟨b.str.toArray⟩, .slice Ab b.parts.length cb, .slice Bb b.keys.length db] 25))
  clear hva hvb
  go_enter Tryz.func7, Tryz.ntmps7
  go_wp2_with fail
  refine (prim_shown _ (Lib.hid (hl.out.below HW.out))).mono ?_
  rintro e w1 ⟨rfl, hb1⟩
  have HB1 := Lib.hid (SameSt.mk (v1 := valV a Aa ca Ba da) (v2 := valV b Ab cb Bb db) (HB.out.1.below hb1) (HB.out.2.below hb1) (bthen HW.out hb1))
  clear hb1
  obtain ⟨p0, p1, p2, p3, p4⟩ := HB1.out.one.get
  obtain ⟨q0, q1, q2, q3, q4⟩ := HB1.out.two.get
  go_wp2_with fail
  refine (HD1.out _ _ (list2 rfl (Hva.out.below HB1.out.bel) (Hvb.out.below HB1.out.bel)) (Lib.hid (hl.out.below (bthen HB1.out.bel (one_b _ _))))).mono ?_
  rintro e w2 ⟨v', rfl, hv', hb2⟩
  obtain ⟨A6, c6, B6, d6, rfl, _⟩ := hv'.form
  have HB2 := Lib.hid (HB1.out.below (bthen (one_b _ _) hb2))
  have HR2 := Lib.hid (hv'.imp (ok' := anyB) (fun _ _ => trivial))
  clear p0 p1 p2 p3 p4 q0 q1 q2 q3 q4 hv' hb2
  by_cases h0 : t = 0
  · have g0 : (t != 0) = false := by simpa using h0
    have g1 : (R.kind == 2) = true := by
      rcases hs with h | h
      · exact absurd h0 h
      · simpa using h
    clear h0 hs
    go_wp2_with fail
    go_ret
    exact ⟨rfl, bthen HB2.out.bel (one_b _ _)⟩
  · have g0 : (t != 0) = true := by simpa using h0
    clear h0 hs
    go_wp2_with fail
    go_ret
    exact ⟨rfl, bthen HB2.out.bel (one_b _ _)⟩
end Go.Proofs.YtacaknkfddlklaaGreatDoor
